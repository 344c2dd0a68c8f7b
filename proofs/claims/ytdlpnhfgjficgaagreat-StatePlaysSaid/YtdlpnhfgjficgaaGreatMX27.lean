import Derived.Test.YtdlpnhfgjficgaaGreatWB
namespace Go.Proofs.YtdlpnhfgjficgaaGreat
section
set_option maxHeartbeats 4000000
set_option maxRecDepth 8000
open Go.RowKit Go.Maps Go.Shelf
theorem ite_len {α:Type} (c:Prop) [Decidable c] (x:α):(if c then ([]:List α) else [x]).length≤1:=by split <;> simp
theorem twr_len1 (s:List UInt8) (n:Int):∀l:List Tag,(twr s n true l).length≤l.length
 | []=>by simp [twr]
 | b::l=>by
   have ih:=twr_len1 s n l
   have h1:=ite_len (b.1=s) b
   unfold twr
   rw [List.length_append,List.length_append,Bool.true_or]
   simp only [Bool.not_true,Bool.false_and,Bool.false_eq_true,if_false,List.length_nil,List.length_cons]
   omega
theorem twr_len (s:List UInt8) (n:Int):∀l:List Tag,(twr s n false l).length≤l.length+1
 | []=>by simp [twr]
 | a::l=>by
   have h1:=twr_len s n l
   have h2:=twr_len1 s n l
   have h3:=ite_len (a.1=s) a
   unfold twr
   cases tlt a.1 s
   ·simp only [Bool.not_false,Bool.and_self,Bool.or_true,if_true,List.length_append,List.length_cons,List.length_nil]
    omega
   ·simp only [Bool.not_true,Bool.and_false,Bool.or_false,Bool.false_eq_true,if_false,List.length_append,List.length_cons,List.length_nil]
    omega
theorem tstep_len (out:List Tag) (t:Tag):(tstep out t).length≤out.length+1:=by
 unfold tstep
 split
 ·exact twr_len _ _ _
 ·omega
theorem rtjoin_any (v u:Value) (l k:List Tag) (w:World) (hv:Tags w v l) (hu:Tags w u k) (hl:l.length≤10000) (hk:k.length≤10000) :
 Calls Tryz.prog 56 #[v,u] w fun e w'=>∃v',e=.returned v'∧Tags w' v' ((tfold l k).take 100)∧(∀j,v'.rb=some j→w.heap.size≤j)∧Pure w w':=by
 obtain ⟨a,cap,rfl⟩:=hv.shape
 obtain ⟨b0,cap0,rfl⟩:=hu.shape
 have Hv:=hid hv
 have Hu:=hid (fun W (hW:Pure w W)=>(show Tags W (.slice b0 k.length cap0) k from Row.pure hu hW))
 have Hst:=qh (tfold l (k.take 0)=l) (rfl)
 have Hstep:=hid (fun j (hj:j<k.length)=>(show tfold l (k.take (j+1))=tstep (tfold l (k.take j)) (k.getD j t0) from by
  unfold tfold
  rw [take_succ_g t0 k j hj,List.foldl_append];rfl))
 have Hlen:=qh (∀j,j≤k.length→(tfold l (k.take j)).length≤l.length+j) (fun j=>by
  induction j with
  | zero=>intro _;exact Nat.le_refl _
  | succ j ih =>
    intro hj
    have h1:=ih oe
    have h2:=tstep_len (tfold l (k.take j)) (k.getD j t0)
    rw [←Hstep.out j oe] at h2
    omega)
 clear hv hu
 go_enter Tryz.func56,Tryz.ntmps56
 go_wp2_with (at_builtin;refine wpList_append_tags rfl _ _ rfl w.heap.size _ [] 0 rfl (World.ownsRow_nil _ _ _ _) _ l l.length rfl Hv.out oe (Nat.le_refl _) ?_)
 intro v1 w1 hown1 hg1
 have HP1:=hid (Below.grown (Below.refl _ w) hg1 (Nat.le_refl _) (fun k e=>by cases e))
 have HO1:=qh (w1.ownsRow w.heap.size 90 2 v1 l.length (gvs tcells l)) (by simpa using hown1)
 clear hown1 hg1
 go_wp2
 go_loopw [5,6] (fun o i wr=>∃(j:Nat) (Y:List Tag),j≤k.length∧i=.int .i64 j∧Y=tfold l (k.take j)∧wr.ownsRow w.heap.size 90 2 o Y.length (gvs tcells Y)∧Pure w wr) (fun _ i _=>k.length-(RowKit.intOf i).toNat)
 case atStart=>exact ⟨0,l,Nat.zero_le _,rfl,Hst.out.symm,HO1.out,HP1.out⟩
 case round =>
  obtain ⟨j,Y,hj,rfl,hY,hown,hp⟩:=hrel
  obtain ⟨a3,c3,rfl⟩:=osd hown
  have HO:=hid hown
  have HP:=hid hp
  have HY:=hid hY
  have hYl:Y.length≤20000:=by rw [hY];have:=Hlen.out j hj;omega
  clear hown hp hY
  by_cases hlt:j<k.length
  ·have hlt' : (j:Int)<(k.length:Int):=by omega
   obtain ⟨b,off,rfl,hb,x0,x1⟩:=Tags.get (Hu.out wr HP.out) hlt
   have HN:=qh (tfold l (k.take (j+1))=if tnum Y (k.getD j t0).1<(k.getD j t0).2 then twith Y (k.getD j t0).1 (k.getD j t0).2 else Y) (by rw [Hstep.out j hlt,←HY.out];rfl)
   generalize k.getD j t0=z at *
   obtain ⟨zs,zn⟩:=z
   dsimp only at x0 x1 HN
   have hnum:=hid (fun W (hW:Pure wr W)=>rtnum_any (.slice a3 Y.length c3) Y zs W (Row.pure (Row.of_own HO.out) hW) oe)
   have hwith0:=hid (fun W (hW:Pure wr W)=>rtwith_any (.slice a3 Y.length c3) Y zs zn W (Row.pure (Row.of_own HO.out) hW) oe)
   unfold TagsF at hwith0
   have hS:Hid (∀W,Pure wr W→(W.cell? ⟨b,off+j*2,none⟩=some (.string (bs zs))∧W.cell? ⟨b,off+j*2+1,none⟩=some (.int .i64 zn)∧Pure wr W)):=fun W hW=>⟨(hW.cell hb).trans x0,(hW.cell hb).trans x1,hW⟩
   have hst:=hid (hS.out wr.drew qv)
   have hS2:Hid (∀W:World,(W.cell? ⟨b,off+j*2,none⟩=some (.string (bs zs))∧W.cell? ⟨b,off+j*2+1,none⟩=some (.int .i64 zn)∧Pure wr W)→Pure wr W):=fun W h=>h.2.2
   generalize tnum Y zs=T at *
   have hwm:IntKind.i64.wrap (j:Int)=(j:Int):=IntWalk.i64_in _ oe
   clear hb x0 x1
   by_cases hgt:T<zn
   ·have hgt' : decide (zn > T)=true:=decide_eq_true hgt
    have hgt2:decide (T<zn)=true:=decide_eq_true hgt
    have HR:=qh (tfold l (k.take (j+1))=twith Y zs zn) (by rw [HN.out,if_pos hgt])
    go_wp2_with fail
    refine wp_region_held_drew (S:=(fun W=>W.cell? ⟨b,off+j*2,none⟩=some (.string (bs zs))∧W.cell? ⟨b,off+j*2+1,none⟩=some (.int .i64 zn)∧Pure wr W)) qk ?_ (fun hHeld=>?_)
    ·first|assumption|with_reducible exact hst.out|with_reducible exact hS.out _ hp7
    refine tkA 0 ?_
    refine tkA 1 ?_
    refine tkA 2 ?_
    refine tkA 3 ?_
    refine tkA 4 ?_
    refine tkA 5 ?_
    refine tkA 6 ?_
    refine tkA 7 ?_
    refine tkA 8 ?_
    refine tkA 9 ?_
    refine tkA 10 ?_
    refine tkC 11 fun K hK=>?_
    go_simp
    go_at_call 117;(with_reducible refine (hnum.out _ (hS2.out _ qa)).mono ?_);rintro e w7 ⟨rfl,rfl⟩
    refine hK.out _ _ (by first|assumption|with_reducible exact hst.out|with_reducible exact hS.out _ hp7) fun hHeld=>?_
    clear hK K
    refine tkA 12 ?_
    refine wpAnyH_done qk ?_ _
    obtain ⟨w5,hw5⟩:=qe (wr.drew)
    have hp5:Pure wr w5:=by rw [hw5];exact qv
    rw [←hw5]
    clear hw5
    have hwith:=hid (fun W (hW:Pure w5 W)=>hwith0.out W (hp5.then_ hW))
    have hS5:Hid (∀W,Pure w5 W→(W.cell? ⟨b,off+j*2,none⟩=some (.string (bs zs))∧W.cell? ⟨b,off+j*2+1,none⟩=some (.int .i64 zn)∧Pure w5 W)):=fun W hW=>by
     obtain ⟨h1,h2,-⟩:=hS.out W (hp5.then_ hW)
     exact ⟨h1,h2,hW⟩
    have hst5:=hid (hS5.out w5.drew qv)
    have hS6:Hid (∀W:World,(W.cell? ⟨b,off+j*2,none⟩=some (.string (bs zs))∧W.cell? ⟨b,off+j*2+1,none⟩=some (.int .i64 zn)∧Pure w5 W)→Pure w5 W):=fun W h=>h.2.2
    have Hp5:=hid hp5
    clear hp5 hwith0 hst hS hS2
    go_wp2_with fail
    refine wp_region_held_drew (S:=(fun W=>W.cell? ⟨b,off+j*2,none⟩=some (.string (bs zs))∧W.cell? ⟨b,off+j*2+1,none⟩=some (.int .i64 zn)∧Pure w5 W)) qk ?_ (fun hHeld=>?_)
    ·first|assumption|with_reducible exact hst5.out|with_reducible exact hS5.out _ (Pure.then_ (hS6.out _ qa) hp7)
    refine tkA 0 ?_
    refine tkA 1 ?_
    refine tkA 2 ?_
    refine tkA 3 ?_
    refine tkA 4 ?_
    refine tkA 5 ?_
    refine tkA 6 ?_
    refine tkA 7 ?_
    refine tkA 8 ?_
    refine tkA 9 ?_
    refine tkA 10 ?_
    refine tkC 11 fun K hK=>?_
    go_simp
    go_at_call 118;(with_reducible refine (hwith.out _ (hS6.out _ qa)).mono ?_);rintro e w7 ⟨v7,rfl,hown7,hp7⟩
    refine hK.out _ _ (by first|assumption|with_reducible exact hst5.out|with_reducible exact hS5.out _ (Pure.then_ (hS6.out _ qa) hp7)) fun hHeld=>?_
    clear hK K
    refine tkA 12 ?_
    refine wpAnyH_done qk ?_ _
    obtain ⟨a7,c7,rfl⟩:=osd hown7
    have HP7:=hid (HP.out.then_ (Hp5.out.then_ (hS6.out _ qa)))
    have HO7:=qh (w7.ownsRow w.heap.size 90 2 (.slice a7 (twith Y zs zn).length c7) (twith Y zs zn).length (gvs tcells (twith Y zs zn))) (own_mono hown7 (Nat.le_trans HP.out.size Hp5.out.size))
    clear hown7 hp7
    generalize twith Y zs zn=YY at *
    go_wp2
    go_roundw
    case rel=>exact ⟨j+1,YY,by omega,by go_num,HR.out.symm,HO7.out,HP7.out⟩
    case measure=>simp [RowKit.intOf];omega
   ·have hgt' : decide (zn > T)=false:=decide_eq_false hgt
    have hgt2:decide (T<zn)=false:=decide_eq_false hgt
    have HR:=qh (tfold l (k.take (j+1))=Y) (by rw [HN.out,if_neg hgt])
    go_wp2_with fail
    refine wp_region_held_drew (S:=(fun W=>W.cell? ⟨b,off+j*2,none⟩=some (.string (bs zs))∧W.cell? ⟨b,off+j*2+1,none⟩=some (.int .i64 zn)∧Pure wr W)) qk ?_ (fun hHeld=>?_)
    ·first|assumption|with_reducible exact hst.out|with_reducible exact hS.out _ hp7
    refine tkA 0 ?_
    refine tkA 1 ?_
    refine tkA 2 ?_
    refine tkA 3 ?_
    refine tkA 4 ?_
    refine tkA 5 ?_
    refine tkA 6 ?_
    refine tkA 7 ?_
    refine tkA 8 ?_
    refine tkA 9 ?_
    refine tkA 10 ?_
    refine tkC 11 fun K hK=>?_
    go_simp
    go_at_call 117;(with_reducible refine (hnum.out _ (hS2.out _ qa)).mono ?_);rintro e w7 ⟨rfl,rfl⟩
    refine hK.out _ _ (by first|assumption|with_reducible exact hst.out|with_reducible exact hS.out _ hp7) fun hHeld=>?_
    clear hK K
    refine tkA 12 ?_
    refine wpAnyH_done qk ?_ _
    go_wp2
    go_roundw
    case rel=>exact ⟨j+1,Y,by omega,by go_num,HR.out.symm,own_pure HO.out qv,HP.out.then_ qv⟩
    case measure=>simp [RowKit.intOf];omega
  ·obtain rfl:j=k.length:=by omega
   have hlt' : ¬(k.length:Int)<(k.length:Int):=by omega
   have HT:=qh (Y=tfold l k) (by rw [HY.out,List.take_length])
   by_cases h100:Y.length≤100
   ·have h1:¬(Y.length:Int) > 100:=by omega
    have HR:=qh (Y=(tfold l k).take 100) (by rw [←HT.out,List.take_of_length_le h100])
    have Hfr:=hid (fun (i:Nat) (hi:(Value.slice a3 Y.length c3).rb=some i)=>(HO.out.lt i (rb_own hi)).1)
    go_wp2
    go_ret
    exact ⟨_,rfl,by rw [←HR.out];exact Row.of_own HO.out,Hfr.out,HP.out⟩
   ·have h1:(Y.length:Int) > 100:=by omega
    obtain ⟨hV,hVr⟩:=slice_pre_eq (P:=Tryz.prog) Tryz.underlying49 (Row.of_own HO.out) (k:=100) oe (by rcases own_plain_d HO.out with ⟨p,c,e,h⟩;injection e with e1 e2 e3;subst e1;exact h) sizeTag
    have HVr:=qh (Tags wr (.slice a3 100 c3) ((tfold l k).take 100)) (by
     have:=hVr wr (Row.of_own HO.out)
     rw [gvs_take tenc] at this
     rw [←HT.out]
     have e2:(Y.take 100).length=100:=by rw [List.length_take];omega
     show Row wr (.slice a3 100 c3) (Y.take 100).length 2 _
     rw [e2]
     exact this)
    have Hf:=qh (∀i,(Value.slice a3 100 c3).rb=some i→w.heap.size≤i) (fun i hi=>(HO.out.lt i (by
     unfold Value.rb at hi
     unfold Value.ownBlock
     cases a3 with
     | none=>cases hi
     | some ad=>dsimp only at hi ⊢;split at hi <;> simp_all)).1)
    have hle:100≤c3:=by
     obtain ⟨_,a',c',e,h1,_⟩:=Row.of_own HO.out
     cases e;omega
    clear hVr
    go_wp2
    go_ret
    exact ⟨_,rfl,HVr.out,Hf.out,HP.out⟩
theorem rfew_any (v:Value) (l:List Pr) (w:World) (hr:Peers w v l) (hv:∃a n c,v=.slice a n c∧(a=none∨∃b o,a=some ⟨b,o,none⟩)) :
 Calls Tryz.prog 121 #[v] w fun e w'=>∃v',e=.returned v'∧Peers w v' (l.take 64)∧(∀j,v'.rb=some j→v.rb=some j)∧w=w':=by
 obtain ⟨a,cap,rfl⟩:=hr.shape
 by_cases h64:l.length≤64
 ·refine (few_small _ l w hr h64).mono ?_
  rintro e w' ⟨rfl,rfl⟩
  exact ⟨_,rfl,by rw [List.take_of_length_le h64];exact hr,fun j hj=>hj,rfl⟩
 ·have h1:(l.length:Int) > 64:=by omega
  obtain ⟨hV,hVr⟩:=slice_pre_eq (P:=Tryz.prog) Tryz.underlying50 hr (k:=64) oe (by
   obtain ⟨a',n',c',e,h⟩:=hv
   injection e with e1 e2 e3
   subst e1;exact h) sizePeer
  have HVr:=qh (Peers w (.slice a 64 cap) (l.take 64)) (by
   have:=hVr w hr
   rw [pvs_take] at this
   have e2:(l.take 64).length=64:=by rw [List.length_take];omega
   unfold Peers
   rw [e2]
   exact this)
  have Hf:=qh (∀i,(Value.slice a 64 cap).rb=some i→(Value.slice a l.length cap).rb=some i) (fun i hi=>by cases a <;> simp_all [Value.rb])
  have hle:64≤cap:=by
   obtain ⟨_,a',c',e,h1,_⟩:=hr
   cases e;omega
  clear hVr hr hv
  go_enter Tryz.func121,Tryz.ntmps121
  go_wp2
  go_ret
  exact ⟨_,rfl,HVr.out,Hf.out,rfl⟩
theorem vfold_step (a l:List Pr) (k:Nat) (h:k<l.length):vfold a (l.take (k+1))=pins (l.getD k p0) (vfold a (l.take k)):=by
 unfold vfold
 rw [take_succ_g p0 l k h,List.foldl_append];rfl
theorem rvjoin_any (v u:Value) (l k:List Pr) (w:World) (hv:Peers w v l) (hu:Peers w u k) (hl:VV l) (hk:VV k) :
 Calls Tryz.prog 58 #[v,u] w fun e w'=>∃v',e=.returned v'∧Peers w' v' (vjoin l k)∧(∀j,v'.rb=some j→v.rb=some j∨w.heap.size≤j)∧Pure w w':=by
 obtain ⟨b0,cap0,rfl⟩:=hu.shape
 have Hu:=hid (fun W (hW:Pure w W)=>(show Peers W (.slice b0 k.length cap0) k from Row.pure hu hW))
 have Hv:=hid hv
 have hlk:=hk.n
 have hll:=hl.n
 have Hst:=qh (vfold l (k.take 0)=l) (rfl)
 have Hstep:=hid (fun j (hj:j<k.length)=>vfold_step l k j hj)
 have Hlen:=hid (fun j=>vfold_len (k.take j) l)
 have HVS:=hid (fun j=>(vfold_spec (k.take j) l hl.r (KS.take hk.r j)).1)
 have Hfin:=qh (vjoin l k=(vfold l k).take 64) (rfl)
 have Hs64:=qh (l.take 64=l) (List.take_of_length_le hll)
 clear hv hu
 go_enter Tryz.func58,Tryz.ntmps58
 go_wp2
 go_loopw [5,6] (fun o i wr=>∃(j:Nat) (Y:List Pr),j≤k.length∧i=.int .i64 j∧Y=vfold l (k.take j)∧((j=0∧o=v)∨wr.ownsRow w.heap.size 92 3 o Y.length (pvs Y))∧Peers wr o Y∧Pure w wr) (fun _ i _=>k.length-(RowKit.intOf i).toNat)
 case atStart=>exact ⟨0,l,Nat.zero_le _,rfl,Hst.out.symm,.inl ⟨rfl,rfl⟩,Hv.out,Below.refl _ _⟩
 case round =>
  obtain ⟨j,Y,hj,rfl,hY,ho,hpe,hp⟩:=hrel
  have HO:=hid ho
  have HPe:=hid hpe
  have HP:=hid hp
  have HY:=hid hY
  have hYl:Y.length≤200:=by rw [hY];have:=Hlen.out j;have:=List.length_take_le j k;omega
  obtain ⟨a3,c3,rfl⟩:=Row.shape hpe
  clear ho hpe hp hY
  by_cases hlt:j<k.length
  ·have hlt' : (j:Int)<(k.length:Int):=by omega
   obtain ⟨b,off,rfl,hb,x0,x1,x2⟩:=Peers.get (Hu.out wr HP.out) hlt
   have HN:=qh (vfold l (k.take (j+1))=pput Y (k.getD j p0)) (by rw [Hstep.out j hlt,←HY.out,pput_ins (by rw [HY.out];exact HVS.out j)])
   have hput:=hid (rvput_any (.slice a3 Y.length c3) Y (k.getD j p0) wr HPe.out oe)
   generalize k.getD j p0=z at *
   obtain ⟨z0,z1,z2⟩:=z
   unfold VPutP pv at hput
   dsimp only at x0 x1 x2 hput
   clear hb
   generalize pput Y (⟨z0,z1,z2⟩ : Pr)=YY at *
   go_wp2_with fail
   refine hput.out.mono ?_
   rintro e w7 ⟨v7,rfl,hown7,hp7⟩
   obtain ⟨a7,c7,rfl⟩:=osd hown7
   have HO7:=hid (own_mono hown7 HP.out.size)
   have HP7:=hid (HP.out.then_ hp7)
   clear hown7 hp7 x0 x1 x2
   go_wp2
   go_roundw
   case rel=>exact ⟨j+1,YY,by omega,by go_num,HN.out.symm,.inr HO7.out,Row.of_own HO7.out,HP7.out⟩
   case measure=>simp [RowKit.intOf];omega
  ·obtain rfl:j=k.length:=by omega
   have hlt' : ¬(k.length:Int)<(k.length:Int):=by omega
   have HT:=qh (Y.take 64=vjoin l k) (by rw [Hfin.out,HY.out,List.take_length])
   rcases HO.out with ⟨h0,hv⟩|hown
   ·have hY2:Y.length≤64:=by
     have:=HY.out
     rw [h0,Hst.out] at this
     rw [this];exact hll
    have hfew:=hid (few_small (.slice a3 Y.length c3) Y wr HPe.out hY2)
    have HR:=qh (Y=vjoin l k) (by rw [←HT.out,List.take_of_length_le hY2])
    have Hvv:=hid hv
    clear h0 hv
    go_wp2_with fail
    refine hfew.out.mono ?_
    rintro e w7 ⟨rfl,rfl⟩
    go_wp2
    go_ret
    exact ⟨_,rfl,by rw [←HR.out];exact HPe.out,fun j hj=>.inl (by rw [←Hvv.out];exact hj),HP.out⟩
   ·have hfew:=hid (rfew_any (.slice a3 Y.length c3) Y wr HPe.out ⟨_,_,_,rfl,by rcases own_plain_d hown with ⟨p,c,e,h⟩;injection e with e1 e2 e3;subst e1;exact h⟩)
    have Hfr:=hid (fun (i:Nat) (hi:(Value.slice a3 Y.length c3).rb=some i)=>(hown.lt i (rb_own hi)).1)
    clear hown
    generalize Y.take 64=Z at *
    go_wp2_with fail
    refine hfew.out.mono ?_
    rintro e w7 ⟨v7,rfl,hpe7,hrb7,rfl⟩
    obtain ⟨a7,c7,rfl⟩:=Row.shape hpe7
    have HPe7:=hid hpe7
    have Hrb7:=hid hrb7
    clear hpe7 hrb7
    go_wp2
    go_ret
    exact ⟨_,rfl,by rw [←HT.out];exact HPe7.out,fun j hj=>.inr (Hfr.out j (Hrb7.out j hj)),HP.out⟩
end
section
set_option maxHeartbeats 2000000
set_option maxRecDepth 8000
open Go.RowKit Go.Maps Go.Shelf
theorem rdJ_bd (l:List UInt8):(rdJ l).1<16:=by
 have:=(rdInt_bd 15 (some l)).1
 have:=(rdInt_bd 15 (some l)).2 qd
 show (rdInt 15 (some l)).1.toNat<16
 omega
def apB (S:SD) (l:List UInt8):SD × Int:=if (rdJ l).2.2=some [] then ({ S with bags:=S.bags.set (rdJ l).1 (bjoin (S.bags.getD (rdJ l).1 nb) (rdJ l).2.1) },0) else (S,10)
theorem sapply_B (n m M c:Nat) (S:SD) (l:List UInt8) (w:World) (h:St2 n m S w) (hm:m<w.heap.size) (hb:S.bags.length=16) (hg:BN M (S.bags.getD (rdJ l).1 nb)) (hr:BN c (rdJ l).2.1) (hMc:M+c≤3000) :
 Calls Tryz.prog 14 #[.pointer (some ⟨n,0,none⟩),.string (bs (66::l))] w fun e w'=>e=.returned (.int .i64 (apB S l).2)∧St2 n m (apB S l).1 w'∧Kept (fun k=>k=n) w w':=by
 have hlt:=hid h.lt
 have H:=hid h
 have Hm:=hid hm
 have hk:=rdJ_bd l
 have hmr:=hid (mread_any l w)
 have hrd:=hid (fun W (hW:RdAt 117 w.heap.size (some l) W)=>sread_B n w.heap.size l W hW)
 have hx1:(bs (66::l)).extract 0 1=⟨#[66]⟩:=by
  rw [bs_take];rfl
 have hx2:(bs (66::l)).extract 1 (l.length+1)=bs l:=by
  rw [bs_drop _ _ _ qb];rfl
 have hsz:(bs (66::l)).size=l.length+1:=by rw [bs_size];simp
 have hne:((bs (66::l)).toList=[])=False:=by rw [bs_list1];simp
 have hne2:((bs (66::l)).toList == [])=false:=by rw [bs_list1];rfl
 have hA:=qh (apB S l=if (rdJ l).2.2=some [] then ({ S with bags:=S.bags.set (rdJ l).1 (bjoin (S.bags.getD (rdJ l).1 nb) (rdJ l).2.1) },0) else (S,10)) (rfl)
 generalize apB S l=Z at *
 generalize rdJ l=RR at *
 obtain ⟨k,R,s1⟩:=RR
 dsimp only at hrd hA hk hr hg
 have Hclo:=hid (fun w0 w1 b p1 p2 q v0 v1 v2 (h1:St2 n m S w1) (h2:RdB n b p1 p2 q k v0 v1 v2 R (some []) w0 w1) (h3:n<w0.heap.size) (h4:m<w0.heap.size)=>sclos_B n m b p1 p2 q k v0 v1 v2 S R (some []) w0 w1 h1 h2 h3 h4 hk hb hg.v hr.v (by have:=hg.l;have:=hr.l;omega) (by have:=hg.c;have:=hr.c;omega))
 have hend:=hid (fun W (hW:RdAt 117 w.heap.size s1 W)=>mend_any w.heap.size s1 W hW)
 have hnf1:=nf1
 have hnf2:=nf2
 clear h hm hg hr hk hMc hb
 by_cases hs:s1=some []
 ·subst hs
  have hend':=hid (fun W hW=>(show Calls Tryz.prog 46 #[.pointer (some ⟨w.heap.size,0,none⟩)] W fun e w'=>e=.returned (.int .i64 0)∧Pure W w' from by have:=hend.out W hW;rw [if_pos rfl] at this;exact this))
  clear hend
  have hZ:Z=({ S with bags:=S.bags.set k (bjoin (S.bags.getD k nb) R) },0):=by rw [hA.out,if_pos rfl]
  subst hZ
  go_enter Tryz.func14,Tryz.ntmps14
  go_wp2_with (first
   | (go_at_call 44;refine hmr.out.mono ?_;rintro e w1 ⟨rfl,hr1,hp1⟩;have Hr1:=hid hr1;have Hp1:=hid hp1;have hn1:=Nat.lt_of_lt_of_le hlt.out hp1.size;have hm1:=Nat.lt_of_lt_of_le Hm.out hp1.size;clear hr1 hp1)
   | (go_at_call 45;refine (hrd.out _ Hr1.out).mono ?_;rintro e w2 ⟨p1,p2,q,v0,v1,v2,rfl,hc⟩;have HC:=hid hc;have HP2:=hid (pure_box Hp1.out hc.k (Nat.le_refl _));clear hc)
   | (go_at_call 46;refine (hend'.out _ HC.out.r).mono ?_;rintro e w3 ⟨rfl,hp3⟩;have HP3:=hid (HP2.out.then_ hp3);have HC3:=hid (HC.out.pure hp3);clear hp3)
   | (go_at_call 90;refine (Hclo.out _ _ _ _ _ _ _ _ _ (H.out.pure HP3.out) HC3.out hn1 hm1).mono ?_;rintro e w5 ⟨rfl,hs5,hk5⟩;have HS5:=hid hs5;have HK5:=hid hk5;clear hs5 hk5))
  go_ret
  exact ⟨rfl,HS5.out,(Pure.kept HP3.out).trans HK5.out⟩
 ·have hend':=hid (fun W hW=>(show Calls Tryz.prog 46 #[.pointer (some ⟨w.heap.size,0,none⟩)] W fun e w'=>e=.returned (.int .i64 10)∧Pure W w' from by have:=hend.out W hW;rw [if_neg hs] at this;exact this))
  have hZ:Z=(S,10):=by rw [hA.out,if_neg hs]
  subst hZ
  clear hend hs
  go_enter Tryz.func14,Tryz.ntmps14
  go_wp2_with (first
   | (go_at_call 44;refine hmr.out.mono ?_;rintro e w1 ⟨rfl,hr1,hp1⟩;have Hr1:=hid hr1;have Hp1:=hid hp1;clear hr1 hp1)
   | (go_at_call 45;refine (hrd.out _ Hr1.out).mono ?_;rintro e w2 ⟨p1,p2,q,v0,v1,v2,rfl,hc⟩;have HC:=hid hc;have HP2:=hid (pure_box Hp1.out hc.k (Nat.le_refl _));clear hc)
   | (go_at_call 46;refine (hend'.out _ HC.out.r).mono ?_;rintro e w3 ⟨rfl,hp3⟩;have HP3:=hid (HP2.out.then_ hp3);clear hp3))
  go_ret
  exact ⟨rfl,H.out.pure HP3.out,Pure.kept HP3.out⟩
theorem sread_other (n b:Nat) (c:UInt8) (w:World) (hc:c≠73∧c≠82∧c≠66∧c≠78∧c≠86∧c≠72) :
 Calls Tryz.prog 45 #[.pointer (some ⟨n,0,none⟩),.string ⟨#[c]⟩,.pointer (some ⟨b,0,none⟩)] w fun e w'=>e=.returned .nilFunc∧Pure w w':=by
 have q:∀d:UInt8,c≠d→(c == d)=false:=fun d h=>by simpa using h
 have q1:=q _ hc.1
 have q2:=q _ hc.2.1
 have q3:=q _ hc.2.2.1
 have q4:=q _ hc.2.2.2.1
 have q5:=q _ hc.2.2.2.2.1
 have q6:=q _ hc.2.2.2.2.2
 clear q hc
 go_enter Tryz.func45,Tryz.ntmps45
 go_wp2
 go_ret
 exact ⟨rfl,qp⟩
theorem sapply_other (n:Nat) (c:UInt8) (l:List UInt8) (w:World) (hc:c≠73∧c≠82∧c≠66∧c≠78∧c≠86∧c≠72) :
 Calls Tryz.prog 14 #[.pointer (some ⟨n,0,none⟩),.string (bs (c::l))] w fun e w'=>e=.returned (.int .i64 10)∧Pure w w':=by
 have hmr:=hid (mread_any l w)
 have hrd:=hid (fun W=>sread_other n w.heap.size c W hc)
 have hx1:(bs (c::l)).extract 0 1=⟨#[c]⟩:=by
  rw [bs_take];rfl
 have hx2:(bs (c::l)).extract 1 (l.length+1)=bs l:=by
  rw [bs_drop _ _ _ qb];rfl
 have hsz:(bs (c::l)).size=l.length+1:=by rw [bs_size];simp
 have hne:((bs (c::l)).toList=[])=False:=by rw [bs_list1];simp
 have hne2:((bs (c::l)).toList == [])=false:=by rw [bs_list1];rfl
 have hnf1:=nf1
 clear hc
 go_enter Tryz.func14,Tryz.ntmps14
 go_wp2_with (first
  | (go_at_call 44;refine hmr.out.mono ?_;rintro e w1 ⟨rfl,hr1,hp1⟩;have Hr1:=hid hr1;have Hp1:=hid hp1;clear hr1 hp1)
  | (go_at_call 45;refine (hrd.out _).mono ?_;rintro e w2 ⟨rfl,hp2⟩;have HP2:=hid (Hp1.out.then_ hp2);clear hp2))
 go_ret
 exact ⟨rfl,HP2.out⟩
theorem sapply_empty (n:Nat) (w:World) :
 Calls Tryz.prog 14 #[.pointer (some ⟨n,0,none⟩),.string (bs [])] w fun e w'=>e=.returned (.int .i64 10)∧Pure w w':=by
 have hne:((bs []).toList=[])=True:=by rw [bs_list1];simp
 have hne2:((bs []).toList == [])=true:=by rw [bs_list1];rfl
 go_enter Tryz.func14,Tryz.ntmps14
 go_wp2
 go_ret
 exact ⟨rfl,Below.refl _ _⟩
def appl (S:SD) (t:List UInt8):SD × Int:=match t with
 | []=>(S,10)
 | c::l=>if c=73 then ({ S with id:=(apI S.id l).1 },(apI S.id l).2) else if c=82 then ({ S with up:=(apR S.up l).1 },(apR S.up l).2) else if c=66 then apB S l else if c=78 then apN S l else if c=86 then apV S l else if c=72 then apH S l else (S,10)
def bsz (t:List UInt8):Bag:=match t with
 | []=>nb
 | c::l=>if c=66 then (rdJ l).2.1 else nb
def ApP (n m:Nat) (S:SD) (t:List UInt8) (w:World) (e:Ending) (w' : World):Prop:=e=.returned (.int .i64 (appl S t).2)∧St2 n m (appl S t).1 w'∧Kept (fun k=>k=n) w w'
def prt (t:List UInt8):Nat:=match t with
 | []=>0
 | _::l=>(rdJ l).1
theorem sapply_fit (n m K M c:Nat) (S:SD) (t:List UInt8) (w:World) (h:St2 n m S w) (hm:m<w.heap.size) (ok:SOk K S) (hg:BN M (S.bags.getD (prt t) nb)) (hr:BN c (bsz t)) (hMc:M+c≤3000) :
 Calls Tryz.prog 14 #[.pointer (some ⟨n,0,none⟩),.string (bs t)] w (ApP n m S t w):=by
 cases t with
 | nil=>exact (sapply_empty n w).mono fun e w' ⟨h1,h2⟩=>⟨h1,h.pure h2,h2.kept⟩
 | cons k l =>
   by_cases h1:k=73
   ·subst h1
    obtain ⟨r,a1,a2,a3⟩:=h
    refine (sapply_born n S.id S.up r l w a1 ok.id0 (by have:=ok.id1;omega)).mono ?_
    rintro e w' ⟨e1,e2,e3⟩
    have k2:=a2.kept e3
    have k3:=a3.kept2 a2 e3
    exact ⟨e1,⟨r,e2,⟨k2.len,k2.bag,k2.tags,k2.view,k2.holds⟩,⟨k3.len,k3.bag,k3.tags,k3.view,k3.holds⟩⟩,e3⟩
   ·by_cases h2:k=82
    ·subst h2
     obtain ⟨r,a1,a2,a3⟩:=h
     refine (sapply_res n S.id S.up r l w a1).mono ?_
     rintro e w' ⟨e1,e2,e3⟩
     have k2:=a2.kept e3
     have k3:=a3.kept2 a2 e3
     exact ⟨e1,⟨r,e2,⟨k2.len,k2.bag,k2.tags,k2.view,k2.holds⟩,⟨k3.len,k3.bag,k3.tags,k3.view,k3.holds⟩⟩,e3⟩
    ·by_cases h3:k=66
     ·subst h3
      exact sapply_B n m M c S l w h hm ok.bn hg hr hMc
     ·by_cases h4:k=78
      ·subst h4
       exact sapply_N n m S l w h hm ok.tags
      ·by_cases h5:k=86
       ·subst h5
        exact sapply_V n m S l w h hm ok.view
       ·by_cases h6:k=72
        ·subst h6
         exact sapply_H n m S l w h hm
        ·refine (sapply_other n k l w ⟨h1,h2,h3,h4,h5,h6⟩).mono ?_
         rintro e w' ⟨e1,e2⟩
         have ea:appl S (k::l)=(S,10):=by unfold appl;simp only [h1,h2,h3,h4,h5,h6,if_false]
         unfold ApP
         rw [ea]
         exact ⟨e1,h.pure e2,e2.kept⟩
theorem sapply_any (n m M c:Nat) (S:SD) (t:List UInt8) (w:World) (h:St2 n m S w) (hm:m<w.heap.size) (ok:SOk M S) (hr:BN c (bsz t)) (hMc:M+c≤3000) :
 Calls Tryz.prog 14 #[.pointer (some ⟨n,0,none⟩),.string (bs t)] w (ApP n m S t w):=sapply_fit n m M M c S t w h hm ok (ok.bag _) hr hMc
end
section
open Go.RowKit Go.Maps
def Eats {α:Type} (f:RS→α × RS) (c:Nat):Prop:=∀s r,(f s).2=some r→∃l,s=some l∧r.length+c≤l.length
theorem rdg_eats:∀(f n:Nat) (l:List UInt8) (m:Nat) (r:List UInt8),rdg f n l=some (m,r)→r.length+1≤l.length:=by
 intro f
 induction f with
 | zero=>intro n l m r h;simp [rdg] at h
 | succ f ih =>
   intro n l m r h
   cases l with
   | nil=>simp [rdg] at h
   | cons c l =>
     rw [rdg] at h
     split at h
     ·cases h
     ·split at h
      ·simp only [Option.some.injEq,Prod.mk.injEq] at h
       rw [←h.2];simp
      ·have:=ih _ _ _ _ h
       simp only [List.length_cons];omega
theorem eats_num:Eats rdNum 1:=by
 intro s r h
 cases s with
 | none=>simp [rdNum] at h
 | some l =>
   refine ⟨l,rfl,?_⟩
   unfold rdNum at h
   dsimp only at h
   split at h
   ·cases h
   ·rename_i n r' e
    simp only [Option.some.injEq] at h
    subst h
    unfold rnumL at e
    split at e
    ·cases e
    ·exact rdg_eats _ _ _ _ _ e
theorem eats_int (most:Int):Eats (rdInt most) 1:=by
 intro s r h
 unfold rdInt at h
 split at h
 ·cases h
 ·rename_i n r' e
  split at h
  ·cases h
  ·simp only [Option.some.injEq] at h
   subst h
   exact eats_num s r' (by rw [e])
theorem eats_text (most:Int):Eats (rdX most) 1:=by
 intro s r h
 unfold rdX at h
 split at h
 ·cases h
 ·rename_i n r' e
  split at h
  ·cases h
  ·simp only [Option.some.injEq] at h
   obtain ⟨l,h1,h2⟩:=eats_int most s r' (by rw [e])
   refine ⟨l,h1,?_⟩
   rw [←h,List.length_drop];omega
theorem eats_then {α β:Type} {f:RS→α × RS} {g:RS→β × RS} {c d:Nat} (hf:Eats f c) (hg:Eats g d) {s:RS} {r:List UInt8} (h:(g (f s).2).2=some r):∃l,s=some l∧r.length+(c+d)≤l.length:=by
 obtain ⟨l1,e1,h1⟩:=hg _ _ h
 obtain ⟨l,e,h2⟩:=hf _ _ e1
 exact ⟨l,e,by omega⟩
theorem eats_dot:Eats rdDot 2:=by
 intro s r h
 unfold rdDot at h
 split at h
 ·cases h
 ·rename_i y r' e
  split at h
  ·simp only [Option.some.injEq] at h
   subst h
   exact eats_then (eats_int M40) (eats_int M40) (by rw [e])
  ·cases h
theorem eats_msg:Eats rdMsg 5:=by
 intro s r h
 have h' : (rdInt 1048576 (rdX 1000 (rdX 1000 (rdDot s).2).2).2).2=some r:=h
 obtain ⟨l1,e1,h1⟩:=eats_int _ _ _ h'
 obtain ⟨l2,e2,h2⟩:=eats_text _ _ _ e1
 obtain ⟨l3,e3,h3⟩:=eats_text _ _ _ e2
 obtain ⟨l4,e4,h4⟩:=eats_dot _ _ e3
 exact ⟨l4,e4,by omega⟩
theorem eats_items {α:Type} {f:RS→α × RS} {c:Nat} (hf:Eats f c):∀(k:Nat) (acc:List α) (s:RS) (l:List α) (r:List UInt8),rdItems f k acc s=(l,some r)→∃t,s=some t∧r.length+c*l.length≤t.length+c*acc.length
 | 0,acc,s,l,r,h=>by
   simp only [rdItems,Prod.mk.injEq] at h
   exact ⟨r,h.2,by rw [h.1];omega⟩
 | k+1,acc,s,l,r,h=>by
   rw [rdItems] at h
   split at h
   ·cases h
   ·rename_i x r' e
    obtain ⟨t,e1,h1⟩:=eats_items hf k _ _ _ _ h
    obtain ⟨u,e2,h2⟩:=hf s r' (by rw [e])
    simp only [Option.some.injEq] at e1
    subst e1
    refine ⟨u,e2,?_⟩
    rw [List.length_append,Nat.mul_add] at h1
    simp only [List.length_cons,List.length_nil] at h1
    omega
theorem rdRow_eats (most:Int) (s:RS) (r:List UInt8) (h:(rdRow most s).2=some r):∃t,s=some t∧r.length+2*(rdRow most s).1.length≤t.length:=by
 unfold rdRow at h ⊢
 split at h
 ·cases h
 ·rename_i l r' e
  split at h
  ·rename_i hb
   simp only [Option.some.injEq] at h
   subst h
   obtain ⟨t,e1,h1⟩:=eats_items eats_dot _ _ _ _ _ e
   obtain ⟨u,e2,h2⟩:=eats_int _ _ _ e1
   rw [if_pos hb]
   refine ⟨u,e2,?_⟩
   simp only [List.length_nil] at h1
   dsimp only
   omega
  ·cases h
theorem rdCtx_eats (s:RS) (r:List UInt8) (h:(rdCtx s).2=some r):∃t,s=some t∧r.length+2*((rdCtx s).1.1.length+(rdCtx s).1.2.length)≤t.length:=by
 unfold rdCtx at h ⊢
 split at h
 ·cases h
 ·rename_i C r' e
  split at h
  ·rename_i hb
   simp only [Option.some.injEq] at h
   subst h
   obtain ⟨t,e1,h1⟩:=rdRow_eats 1000 (rdRow 1000 s).2 r' (by rw [e])
   obtain ⟨u,e2,h2⟩:=rdRow_eats 1000 s t e1
   rw [if_pos hb]
   rw [e] at h1
   dsimp only at h1 ⊢
   exact ⟨u,e2,by omega⟩
  ·cases h
theorem rdBag_size (l:List UInt8) (s:RS) (hs:∀t,s=some t→t.length≤l.length):(rdBag s).1.1.length≤l.length / 2∧(rdBag s).1.2.1.length+(rdBag s).1.2.2.length≤l.length / 2:=by
 unfold rdBag
 split
 ·simp
 ·rename_i m r e
  split
  ·dsimp only
   obtain ⟨t,e1,h1⟩:=eats_items eats_msg _ _ _ _ _ e
   obtain ⟨u,e2,h2⟩:=eats_int _ _ _ e1
   obtain ⟨v,e3,h3⟩:=rdCtx_eats _ _ e2
   have:=hs v e3
   simp only [List.length_nil] at h1
   omega
  ·simp
theorem rdJ_size (l:List UInt8) (hl:l.length≤60):BN 30 (rdJ l).2.1:=by
 have h:=rdBag_size l (rdInt 15 (some l)).2 (fun t ht=>by
  obtain ⟨u,e,h⟩:=eats_int 15 (some l) t ht
  simp only [Option.some.injEq] at e
  subst e;omega)
 exact ⟨rdBag_ok _,by show (rdBag _).1.1.length≤30;omega,by show (rdBag _).1.2.1.length+(rdBag _).1.2.2.length≤30;omega⟩
theorem rdJ_text {k:Nat} {g:Bag} (hk:k<16) (hg:BN 1000 g):rdJ (num k++bagB g)=(k,g,some []):=by
 have hc:=hg.c
 have h1:rdInt 15 (some (num k++bagB g))=((k:Int),some (bagB g)):=rdInt_num 15 k oe oe _
 have h2:rdBag (some (bagB g++[]))=(g,some []):=rdBag_bytes hg.v hg.l oe oe []
 rw [List.append_nil] at h2
 unfold rdJ
 rw [h1]
 dsimp only
 rw [h2,Int.toNat_natCast]
theorem rpart_lt (x:Rc):rpart x<16:=by
 have:=andK x.p 15 qd
 unfold rpart;omega
theorem bsz_text (x:Rc):BN 30 (bsz (rtext x)):=by
 have h0:BN 30 nb:=BN.nil.mono qd
 have h7:(x.raw.take 60).length≤60:=by rw [List.length_take];omega
 unfold rtext
 split
 ·exact h0
 ·split
  ·exact h0
  ·split
   ·show BN 30 (rdJ _).2.1
    rw [rdJ_text (rpart_lt x) ((rbag_ok x).mono qd)]
    exact (rbag_ok x).mono qd
   ·split
    ·exact h0
    ·split
     ·exact h0
     ·split
      ·exact h0
      ·unfold bsz
       split
       ·exact h0
       ·rename_i c l e
        split
        ·refine rdJ_size l ?_
         rw [e] at h7
         simp only [List.length_cons] at h7;omega
        ·exact h0
theorem SOk.appl {M c:Nat} {S:SD} (h:SOk M S) {t:List UInt8} (hr:BN c (bsz t)):SOk (M+c) (appl S t).1:=by
 have hm:=fun p=>(h.bag p).mono (Nat.le_add_right M c)
 have hs:SOk (M+c) S:=⟨h.id0,h.id1,h.up0,h.up1,h.bn,hm,h.tags,h.view,h.holds⟩
 cases t with
 | nil=>exact hs
 | cons k l =>
   have hb:=rdInt_bd 1099511627776 (some l)
   have hb2:=hb.2 qd
   unfold Go.Proofs.YtdlpnhfgjficgaaGreat.appl
   dsimp only
   split
   ·unfold apI
    split
    ·exact hs
    ·split
     ·exact hs
     ·exact ⟨hb.1,hb2,h.up0,h.up1,h.bn,hm,h.tags,h.view,h.holds⟩
   ·split
    ·unfold apR
     split
     ·exact hs
     ·refine ⟨h.id0,h.id1,?_,?_,h.bn,hm,h.tags,h.view,h.holds⟩
      ·have:=h.up0;dsimp only;omega
      ·have:=h.up1;dsimp only;omega
    ·split
     ·rename_i hk
      unfold apB
      split
      ·have hg:BN c (rdJ l).2.1:=by
        have:=hr
        unfold bsz at this
        dsimp only at this
        rwa [if_pos hk] at this
       refine ⟨h.id0,h.id1,h.up0,h.up1,by simpa using h.bn,fun p=>?_,h.tags,h.view,h.holds⟩
       show BN (M+c) ((S.bags.set _ _).getD p nb)
       rw [set3_getD h.bn (rdJ_bd l)]
       split
       ·exact (h.bag _).join hg
       ·exact hm p
      ·exact hs
     ·split
      ·unfold apN
       split
       ·exact ⟨h.id0,h.id1,h.up0,h.up1,h.bn,hm,h.tags.join (rdTags_ok _),h.view,h.holds⟩
       ·exact hs
      ·split
       ·unfold apV
        split
        ·exact ⟨h.id0,h.id1,h.up0,h.up1,h.bn,hm,h.tags,h.view.join (rdView_ok _),h.holds⟩
        ·exact hs
       ·split
        ·unfold apH
         split
         ·exact ⟨h.id0,h.id1,h.up0,h.up1,h.bn,hm,h.tags,h.view,rdHolds_ok _⟩
         ·exact hs
        ·exact hs
end
end Go.Proofs.YtdlpnhfgjficgaaGreat
