import Derived.Test.YtdlpnhfgjficgaaGreatMZa
import Derived.Test.YtdlpnhfgjficgaaGreatMX30
import Derived.Deep.MidRow
namespace Go.Proofs.YtdlpnhfgjficgaaGreat
section
set_option maxHeartbeats 4000000
set_option maxRecDepth 8000
open Go.RowKit Go.Maps Go.Shelf
structure SD where
 id:Int
 up:Int
 bags:List Bag
 tags:List Tag
 view:List Pr
 holds:List Hold
def nb:Bag:=([],[],[])
theorem nb_get (k p:Nat):(List.replicate k nb).getD p nb=nb:=by
 rw [List.getD_eq_getElem?_getD,List.getElem?_replicate]
 split <;> rfl
def S0:SD:=⟨0,0,List.replicate 16 nb,[],[],[]⟩
structure SRows (n:Nat) (r:List Value) (S:SD) (w:World):Prop where
 len:r.length=51
 bag:∀p,p<16→∃v0 v1 v2,r[p*3]?=some v0∧r[p*3+1]?=some v1∧r[p*3+2]?=some v2∧BR3 v0 v1 v2 (S.bags.getD p nb) w∧(∀k,v0.rb=some k→k≠n)∧(∀k,v1.rb=some k→k≠n)∧∀k,v2.rb=some k→k≠n
 tags:∃v,r[48]?=some v∧Tags w v S.tags∧∀k,v.rb=some k→k≠n
 view:∃v,r[49]?=some v∧Peers w v S.view∧∀k,v.rb=some k→k≠n
 holds:∃v,r[50]?=some v∧Holds w v S.holds∧∀k,v.rb=some k→k≠n
theorem SRows.pure {n:Nat} {r:List Value} {S:SD} {w w' : World} (h:SRows n r S w) (hp:Pure w w'):SRows n r S w':=by
 refine ⟨h.len,fun p hp'=>?_,?_,?_,?_⟩
 ·obtain ⟨v0,v1,v2,e0,e1,e2,hb,f⟩:=h.bag p hp'
  exact ⟨v0,v1,v2,e0,e1,e2,hb.pure hp,f⟩
 ·obtain ⟨v,e,hr,f⟩:=h.tags;exact ⟨v,e,Row.pure hr hp,f⟩
 ·obtain ⟨v,e,hr,f⟩:=h.view;exact ⟨v,e,Row.pure hr hp,f⟩
 ·obtain ⟨v,e,hr,f⟩:=h.holds;exact ⟨v,e,Row.pure hr hp,f⟩
theorem SRows.kept {n:Nat} {r:List Value} {S:SD} {w w' : World} (h:SRows n r S w) (hk:Kept (fun k=>k=n) w w'):SRows n r S w':=by
 refine ⟨h.len,fun p hp'=>?_,?_,?_,?_⟩
 ·obtain ⟨v0,v1,v2,e0,e1,e2,hb,f0,f1,f2⟩:=h.bag p hp'
  exact ⟨v0,v1,v2,e0,e1,e2,hb.kept hk f0 f1 f2,f0,f1,f2⟩
 ·obtain ⟨v,e,hr,f⟩:=h.tags;exact ⟨v,e,Row.kept hr hk f,f⟩
 ·obtain ⟨v,e,hr,f⟩:=h.view;exact ⟨v,e,Row.kept hr hk f,f⟩
 ·obtain ⟨v,e,hr,f⟩:=h.holds;exact ⟨v,e,Row.kept hr hk f,f⟩
def St (n:Nat) (S:SD) (w:World):Prop:=∃r,SAt n S.id S.up r w∧SRows n r S w
theorem St.pure {n:Nat} {S:SD} {w w' : World} (h:St n S w) (hp:Pure w w'):St n S w':=by
 obtain ⟨r,h1,h2⟩:=h;exact ⟨r,h1.pure hp,h2.pure hp⟩
theorem St.lt {n:Nat} {S:SD} {w:World} (h:St n S w):n<w.heap.size:=by obtain ⟨r,h1,_⟩:=h;exact h1.lt
theorem St.zero {n:Nat} {w:World} (h:SAt n 0 0 (List.replicate 51 (.slice none 0 0)) w):St n S0 w:=by
 have hv:∀j,j<51→(List.replicate 51 (Value.slice none 0 0))[j]?=some (.slice none 0 0):=fun j hj=>by rw [List.getElem?_replicate,if_pos hj]
 have hf:∀k,(Value.slice none 0 0).rb=some k→k≠n:=fun k hk=>by simp [Value.rb] at hk
 refine ⟨_,h,⟨by simp,fun p hp=>⟨_,_,_,hv _ oe,hv _ oe,hv _ oe,?_,hf,hf,hf⟩,⟨_,hv _ oe,Row.nil _ _,hf⟩,⟨_,hv _ oe,Row.nil _ _,hf⟩,⟨_,hv _ oe,Row.nil _ _,hf⟩⟩⟩
 have:S0.bags.getD p nb=nb:=nb_get 16 p
 rw [this]
 exact ⟨Row.nil _ _,Row.nil _ _,Row.nil _ _⟩
structure SOk (m:Nat) (S:SD):Prop where
 id0:0≤S.id
 id1:S.id≤1099511627776
 up0:0≤S.up
 up1:S.up≤1099511627776
 bn:S.bags.length=16
 bag:∀p,BN m (S.bags.getD p nb)
 tags:TV S.tags
 view:VV S.view
 holds:HV S.holds
theorem SOk.zero (m:Nat):SOk m S0:=by
 refine ⟨by decide,by decide,by decide,by decide,by simp [S0],fun p=>?_,TV.nil,VV.nil,HV.nil⟩
 have:S0.bags.getD p nb=nb:=nb_get 16 p
 rw [this]
 exact BN.nil.mono (Nat.zero_le _)
def rec1 (b:Bool) (t:List UInt8):List (List UInt8):=if b then [t] else []
def brec (S:SD) (p:Nat):List (List UInt8):=rec1 (!decide (S.bags.getD p nb=nb)) (66::(num p++bagB (S.bags.getD p nb)))
def srec0 (S:SD):List (List UInt8):=rec1 (S.id != 0) (73::num S.id.toNat)++rec1 (S.up != 0) (82::num S.up.toNat)++rec1 (decide (0<S.tags.length)) (78::tagsB S.tags)++rec1 (decide (0<S.view.length)) (86::viewB S.view)++rec1 (decide (0<S.holds.length)) (72::holdsB S.holds)
def srecN (S:SD) (k:Nat):List (List UInt8):=srec0 S++(List.range k).flatMap (brec S)
def srecs (S:SD):List (List UInt8):=srecN S 16
theorem srecN_succ (S:SD) (k:Nat):srecN S (k+1)=srecN S k++brec S k:=by unfold srecN;rw [List.range_succ,List.flatMap_append,List.append_assoc];simp
theorem rec1_len (b:Bool) (t:List UInt8):(rec1 b t).length≤1:=by unfold rec1;split <;> simp
theorem srecN_len (S:SD):∀k,(srecN S k).length≤5+k
 | 0=>by
   have h1:=rec1_len (S.id != 0) (73::num S.id.toNat)
   have h2:=rec1_len (S.up != 0) (82::num S.up.toNat)
   have h3:=rec1_len (decide (0<S.tags.length)) (78::tagsB S.tags)
   have h4:=rec1_len (decide (0<S.view.length)) (86::viewB S.view)
   have h5:=rec1_len (decide (0<S.holds.length)) (72::holdsB S.holds)
   unfold srecN srec0
   simp only [List.length_append,List.range_zero,List.flatMap_nil,List.length_nil]
   omega
 | k+1=>by
   have:=srecN_len S k
   have:=rec1_len (!decide (S.bags.getD k nb=nb)) (66::(num k++bagB (S.bags.getD k nb)))
   rw [srecN_succ,List.length_append]
   unfold brec
   omega
structure OB (o:Nat) (w6:World) (L:List (List UInt8)) (W:World):Prop where
 ex:∃v,W.heap[o]?=some (.cells #[v] 61 (0,0))∧W.ownsRow w6.heap.size 9 1 v L.length (svs L)
 k:Kept (fun k=>k=o) w6 W
 lt:o<w6.heap.size
theorem OB.pure {o:Nat} {w6 W W' : World} {L:List (List UInt8)} (h:OB o w6 L W) (hp:Pure W W'):OB o w6 L W':=by
 obtain ⟨⟨v,e,r⟩,k,l⟩:=h
 exact ⟨⟨v,(hp.block _ (lob e)).trans e,own_pure r hp⟩,k.trans hp.kept,l⟩
theorem OB.grow {o:Nat} {w6 W W' : World} {L:List (List UInt8)} {v v' : Value} {t:List UInt8} (h:OB o w6 L W) (hv:W.heap[o]?=some (.cells #[v] 61 (0,0))) (hg:W.grownBy W' v.ownBlock) (hr:W.ownsRow w6.heap.size 9 1 v L.length (svs L)) (h' : W'.ownsRow w6.heap.size 9 1 v' (L.length+1) (svs (L++[t]))) :
 W'.heap[o]?=some (.cells #[v] 61 (0,0))∧OB o w6 (L++[t]) (W'.setCell ⟨o,0,none⟩ v'):=by
 have hlt:=h.lt
 have hk:Kept (fun k=>w6.heap.size≤k) W W':=Kept.grown (S:=fun k=>w6.heap.size≤k) (Kept.refl _ _) hg (fun k hk _=>(hr.lt k hk).1)
 have e:=(hk.block o (lob hv) oe).trans hv
 refine ⟨e,⟨⟨v',?_,?_⟩,?_,hlt⟩⟩
 ·have:=bsc e 0 v';simpa using this
 ·have:=own_kept h' (Kept.setCell (S:=fun k=>k=o) (Kept.refl _ _) (p:=⟨o,0,none⟩) (fun _=>rfl) v') (fun j hj e=>by have:=(h'.lt j hj).1;omega)
  simpa using this
 ·exact (h.k.then_ (T:=fun k=>w6.heap.size≤k) hk (fun i hi h=>absurd hi oe)).setCell (p:=⟨o,0,none⟩) (fun _=>rfl) v'
theorem put_no (f o:Value) (w:World):Calls Tryz.prog 70 #[.bool false,f,o] w fun e w'=>e=.returned (.tuple #[])∧w=w':=by
 go_enter Tryz.func70,Tryz.ntmps70
 go_wp2
 go_end0
 exact ⟨rfl,rfl⟩
theorem str_lit_cells (w:World) (s:List UInt8):∀j u,(svs [s])[j]?=some u→(w.alloc (.cells #[.string (bs s)] 9)).cell? ((⟨w.heap.size,0,none⟩ : Addr).add j)=some u:=by
 intro j u hj
 rw [Addr.add_lit,Nat.zero_add,World.cell?_alloc_new]
 simpa [svs] using hj
theorem put_yes (g:Nat) (cb:Array Value) (eg:∀args w,(callFunc g args).run Tryz.prog w=.ok (.enter g args) w) (t:List UInt8) (o:Nat) (w6 W:World) (L:List (List UInt8)) (hO:OB o w6 L W) (hL:L.length≤1000) (hrec:∀W',Pure W W'→Calls Tryz.prog g cb W' fun e w'=>e=.returned (.string (bs t))∧Pure W' w') :
 Calls Tryz.prog 70 #[.bool true,.func (.func g) #[] cb,.pointer (some ⟨o,0,none⟩)] W fun e w'=>e=.returned (.tuple #[])∧OB o w6 (L++[t]) w':=by
 obtain ⟨⟨v,e,hr⟩,hk,hl⟩:=hO
 have HO:=qh (OB o w6 L W) (⟨⟨v,e,hr⟩,hk,hl⟩)
 have Hrec:=hid hrec
 obtain ⟨a9,c9,rfl⟩:=osd hr
 obtain ⟨i0,hi,hz0,hz1,hz2⟩:=ipt infoStr
 have He:=hid e
 have Hr:=hid hr
 have o0:=cob e 0
 simp at o0
 have hks:=hk.size
 have hgr:=hid (fun W8 (hW:Pure W W8) (v' : Value) (w' : World) (h1:w'.ownsRow w6.heap.size 9 1 v' (L.length+1) (svs L++svs [t])) (h2:W8.grownBy w' (Value.slice a9 L.length c9).ownBlock) =>
  (HO.out.pure hW).grow ((hW.block _ (lob He.out)).trans He.out) h2 (own_pure Hr.out hW) (by rw [svs_append];exact h1))
 clear hrec e hr hk
 go_enter Tryz.func70,Tryz.ntmps70
 go_wp2_with fail
 go_region_law (first
  | (go_simp;(with_reducible refine (Hrec.out _ (by exact qv)).mono ?_);rintro e w8 ⟨rfl,hp8⟩;have H8:=qh (Pure W w8) (Pure.then_ qv hp8);have hs8:=H8.out.size;have o80:=pat H8.out o0;have hol8:o<w8.heap.size:=oe;clear hp8)
  | (refine step_append_own rfl (.tmp 6) (.tmp 9) 61 rfl w6.heap.size 9 i0 (.string ⟨#[]⟩) 1 16 Tryz.underlying61 hi hz0 hz1 hz2 rfl qd (.slice a9 L.length c9) L.length (svs L) (by simp [Act.eval]) (World.ownsRow.alloc (own_pure Hr.out H8.out) _) ⟨w8.heap.size,0,none⟩ 1 1 (svs [t]) (by simp [Act.eval]) rfl (str_lit_cells w8 t) (svs_one _) (by unfold maxLen;omega) oe qc ?_;intro v' w' hown' hg';obtain ⟨hb',hL'⟩:=hgr.out _ (H8.out.then_ qp) v' w' hown' hg';have s1:=cob hb' 0;have s2:=fob hb' 0;clear hb';obtain ⟨a8,c8,rfl⟩:=osd hown';have HL11:=hid hL';clear hown' hg' hL'))
 all_goals
  go_end0
  exact ⟨rfl,HL11.out⟩
end
section
set_option maxHeartbeats 2000000
set_option maxRecDepth 8000
open Go.RowKit Go.Maps Go.Shelf
theorem tagsB_len {l:List Tag} (h:TV l):(tagsB l).length≤100000:=by
 have h1:=num_len l.length (by have:=h.n;omega)
 have h2:=flatT_len l h.may
 have:=h.n
 unfold tagsB;rw [List.length_append];omega
theorem viewB_len {l:List Pr} (h:VV l):(viewB l).length≤100000:=by
 have h1:=num_len l.length (by have:=h.n;omega)
 have h2:=flatP_len l h.may
 have:=h.n
 unfold viewB;rw [List.length_append];omega
theorem holdsB_len {l:List Hold} (h:HV l):(holdsB l).length≤100000:=by
 have h1:=num_len l.length (by have:=h.n;omega)
 have h2:=flatH_len l h.may
 have:=h.n
 unfold holdsB;rw [List.length_append];omega
theorem stagged_any (v:Value) (l:List Tag) (w:World) (hr:Tags w v l) (hv:TV l):Calls Tryz.prog 25 #[v] w fun e w'=>e=.returned (.string (bs (78::tagsB l)))∧Pure w w':=by
 have h:=hid (tbytes_any v l w hr hv.may (by have:=hv.n;omega))
 have hc:=bcat1 78 (tagsB l)
 have hlen:=tagsB_len hv
 have hl:¬(9223372036854775807:Int)<1+((bs (tagsB l)).size:Int):=by rw [bs_size];omega
 have hl2:¬9223372036854775807<1+(bs (tagsB l)).size:=by rw [bs_size];omega
 clear hlen hr hv
 generalize tagsB l=L at *
 go_enter Tryz.func25,Tryz.ntmps25
 go_wp2_with (go_at_call 64;refine h.out.mono ?_;rintro e w1 ⟨rfl,hp1⟩;have Hp1:=hid hp1;clear hp1)
 go_ret
 exact ⟨rfl,Hp1.out⟩
theorem sseen_any (v:Value) (l:List Pr) (w:World) (hr:Peers w v l) (hv:VV l):Calls Tryz.prog 27 #[v] w fun e w'=>e=.returned (.string (bs (86::viewB l)))∧Pure w w':=by
 have h:=hid (vbytes_any v l w hr hv.may (by have:=hv.n;omega))
 have hc:=bcat1 86 (viewB l)
 have hlen:=viewB_len hv
 have hl:¬(9223372036854775807:Int)<1+((bs (viewB l)).size:Int):=by rw [bs_size];omega
 have hl2:¬9223372036854775807<1+(bs (viewB l)).size:=by rw [bs_size];omega
 clear hlen hr hv
 generalize viewB l=L at *
 go_enter Tryz.func27,Tryz.ntmps27
 go_wp2_with (go_at_call 66;refine h.out.mono ?_;rintro e w1 ⟨rfl,hp1⟩;have Hp1:=hid hp1;clear hp1)
 go_ret
 exact ⟨rfl,Hp1.out⟩
theorem sheld_any (v:Value) (l:List Hold) (w:World) (hr:Holds w v l) (hv:HV l):Calls Tryz.prog 29 #[v] w fun e w'=>e=.returned (.string (bs (72::holdsB l)))∧Pure w w':=by
 have h:=hid (hbytes_any v l w hr hv.may (by have:=hv.n;omega))
 have hc:=bcat1 72 (holdsB l)
 have hlen:=holdsB_len hv
 have hl:¬(9223372036854775807:Int)<1+((bs (holdsB l)).size:Int):=by rw [bs_size];omega
 have hl2:¬9223372036854775807<1+(bs (holdsB l)).size:=by rw [bs_size];omega
 clear hlen hr hv
 generalize holdsB l=L at *
 go_enter Tryz.func29,Tryz.ntmps29
 go_wp2_with (go_at_call 68;refine h.out.mono ?_;rintro e w1 ⟨rfl,hp1⟩;have Hp1:=hid hp1;clear hp1)
 go_ret
 exact ⟨rfl,Hp1.out⟩
theorem BN.small {m:Nat} {g:Bag} (h:BN m g) (hm:m≤10000):SmallG g:=by
 have hc:=h.c
 have hl:=h.l
 refine ⟨fun x hx=>mmay_sm (h.v.may x hx),fun d hd=>?_,fun d hd=>?_,by omega,by omega,by omega⟩
 ·have:=h.v.ok.bok d hd;unfold dok at this;unfold Small;omega
 ·have:=h.v.ok.cok d hd;unfold dok at this;unfold Small;omega
theorem bagB_len {m:Nat} {g:Bag} (h:BN m g) (hm:m≤10000):(bagB g).length≤300000000:=by
 have hc:=h.c
 have hl:=h.l
 have hs:=h.small hm
 have h1:=rowB_len g.2.1 (fun d hd=>by have:=h.v.ok.bok d hd;unfold dok at this;unfold Small;omega) oe
 have h2:=rowB_len g.2.2 (fun d hd=>by have:=h.v.ok.cok d hd;unfold dok at this;unfold Small;omega) oe
 have h3:=num_len g.1.length oe
 have h4:=flatM_len g.1 (fun x hx=>mmay_sm (h.v.may x hx))
 unfold bagB ctxB
 simp only [List.length_append]
 omega
theorem sjoined_any (p:Nat) (v0 v1 v2:Value) (g:Bag) (m:Nat) (w:World) (hr:BR3 v0 v1 v2 g w) (hg:BN m g) (hm:m≤10000) (hp:p<1000000) :
 Calls Tryz.prog 23 #[.int .i64 p,.agg #[v0,v1,v2]] w fun e w'=>e=.returned (.string (bs (66::(num p++bagB g))))∧Pure w w':=by
 have hi:=hid (fun W=>(show Calls Tryz.prog 60 #[.int .i64 p] W fun e w'=>e=.returned (.string (bs (num p)))∧Pure W w' from mint_any (p:Int) W oe oe))
 have hb:=hid (fun W (hW:Pure w W)=>mbbytes_any _ g W (hr.pure hW).at (hg.small hm))
 have l1:=num_len p oe
 have l2:=bagB_len hg hm
 have hl:¬(9223372036854775807:Int)<1+((bs (num p)).size:Int):=by rw [bs_size];omega
 have hl2:¬9223372036854775807<1+(bs (num p)).size:=by rw [bs_size];omega
 have hl3:¬(9223372036854775807:Int)<((bs (66::num p)).size:Int)+((bs (bagB g)).size:Int):=by rw [bs_size,bs_size];simp only [List.length_cons];omega
 have hl4:¬9223372036854775807<(bs (66::num p)).size+(bs (bagB g)).size:=by rw [bs_size,bs_size];simp only [List.length_cons];omega
 have hc:=bcat1 66 (num p)
 have hc2:=qh (bs (66::num p)++bs (bagB g)=bs (66::(num p++bagB g))) (by rw [bs_append];rfl)
 obtain ⟨wz,hwz⟩:=qe (w.alloc (.cells #[v0,v1,v2] 34))
 have Hpz:=qh (Pure w wz) (by rw [hwz];exact qp)
 have hbk:=qh (wz.heap[w.heap.size]?=some (.cells #[v0,v1,v2] 34 (0,0))) (by rw [hwz];exact ban _ _)
 have hS:Hid (∀W,Pure wz W→(W.cell? ⟨w.heap.size,0,none⟩=some v0∧W.cell? ⟨w.heap.size,1,none⟩=some v1∧W.cell? ⟨w.heap.size,2,none⟩=some v2∧Pure wz W)):=fun W hW=>by
  have e:=(hW.block _ (lob hbk.out)).trans hbk.out
  exact ⟨cob e 0,cob e 1,cob e 2,hW⟩
 have hst:=hid (hS.out wz.drew qv)
 have hS2:Hid (∀W:World,(W.cell? ⟨w.heap.size,0,none⟩=some v0∧W.cell? ⟨w.heap.size,1,none⟩=some v1∧W.cell? ⟨w.heap.size,2,none⟩=some v2∧Pure wz W)→Pure wz W):=fun W h=>h.2.2.2
 clear hr hg l1 l2 hbk
 generalize bs (num p)=A at *
 generalize bs (bagB g)=B at *
 generalize bs (66::num p)=C at *
 go_enter Tryz.func23,Tryz.ntmps23
 go_wp2_with fail
 rw [←hwz]
 clear hwz
 go_region_held3 (fun W=>W.cell? ⟨w.heap.size,0,none⟩=some v0∧W.cell? ⟨w.heap.size,1,none⟩=some v1∧W.cell? ⟨w.heap.size,2,none⟩=some v2∧Pure wz W)
  (exact qz)
  (first
    | (go_at_call 60;(with_reducible refine (hi.out _).mono ?_);rintro e w2 ⟨rfl,hp2⟩)
    | (go_at_call 62;(with_reducible refine (hb.out _ (Pure.then_ Hpz.out (hS2.out _ qa))).mono ?_);rintro e w2 ⟨rfl,hp2⟩))
 all_goals
  have hx:=hid (hS2.out w2 qa)
  clear hst hS hS2 hp2
  go_wp2
  go_ret
  exact ⟨congrArg (fun z=>Ending.returned (.string z)) hc2.out,Hpz.out.then_ hx.out⟩
end
section
set_option maxRecDepth 8000
open Go.RowKit Go.Maps Go.Shelf
theorem SAt.row {n:Nat} {a u:Int} {r:List Value} {w:World} (h:SAt n a u r w) (i:Nat):w.cell? ⟨n,i+2,none⟩=r[i]?:=by
 have e:=cob h (i+2)
 rw [e,List.getElem?_toArray,List.getElem?_cons_succ,List.getElem?_cons_succ]
def QB (q n:Nat) (w:World):Prop:=w.heap[q]?=some (.cells #[.pointer (some ⟨n,0,none⟩)] 24 (0,0))
theorem QB.pure {q n:Nat} {w w' : World} (h:QB q n w) (hp:Pure w w'):QB q n w':=(hp.block _ (lob h)).trans h
theorem QB.cell {q n:Nat} {w:World} (h:QB q n w):w.cell? ⟨q,0,none⟩=some (.pointer (some ⟨n,0,none⟩)):=cob h 0
theorem rec2_any (n q:Nat) (S:SD) (m:Nat) (w:World) (h:St n S w) (hok:SOk m S) (hq:QB q n w):Calls Tryz.prog 71 #[.pointer (some ⟨q,0,none⟩)] w fun e w'=>e=.returned (.string (bs (73::num S.id.toNat)))∧Pure w w':=by
 obtain ⟨r,h1,h2⟩:=h
 have hc:=hid (fun W=>sborn_any S.id W hok.id0 (by have:=hok.id1;omega))
 obtain ⟨c0,-,-,-⟩:=h1.cells
 have q0:=hq.cell
 clear h1 h2 hok hq
 go_enter Tryz.func71,Tryz.ntmps71
 go_wp2_with (go_at_call 19;refine (hc.out _).mono ?_;rintro e w1 ⟨rfl,hp1⟩;have Hp1:=hid hp1;clear hp1)
 go_ret
 exact ⟨rfl,Hp1.out⟩
theorem rec3_any (n q:Nat) (S:SD) (m:Nat) (w:World) (h:St n S w) (hok:SOk m S) (hq:QB q n w):Calls Tryz.prog 72 #[.pointer (some ⟨q,0,none⟩)] w fun e w'=>e=.returned (.string (bs (82::num S.up.toNat)))∧Pure w w':=by
 obtain ⟨r,h1,h2⟩:=h
 have hc:=hid (fun W=>sreserve_any S.up W hok.up0 (by have:=hok.up1;omega))
 obtain ⟨-,c1,-,-⟩:=h1.cells
 have q0:=hq.cell
 clear h1 h2 hok hq
 go_enter Tryz.func72,Tryz.ntmps72
 go_wp2_with (go_at_call 21;refine (hc.out _).mono ?_;rintro e w1 ⟨rfl,hp1⟩;have Hp1:=hid hp1;clear hp1)
 go_ret
 exact ⟨rfl,Hp1.out⟩
theorem rec4_any (n q:Nat) (S:SD) (m:Nat) (w:World) (h:St n S w) (hok:SOk m S) (hq:QB q n w):Calls Tryz.prog 73 #[.pointer (some ⟨q,0,none⟩)] w fun e w'=>e=.returned (.string (bs (78::tagsB S.tags)))∧Pure w w':=by
 obtain ⟨r,h1,h2⟩:=h
 obtain ⟨v,ev,hv,-⟩:=h2.tags
 have c:=h1.row 48
 rw [ev] at c
 simp only [Nat.reduceAdd] at c
 obtain ⟨a,cp,rfl⟩:=hv.shape
 have hc:=hid (stagged_any _ S.tags w hv hok.tags)
 have q0:=hq.cell
 clear h1 h2 hok hq ev hv
 go_enter Tryz.func73,Tryz.ntmps73
 go_wp2_with (go_at_call 25;refine hc.out.mono ?_;rintro e w1 ⟨rfl,hp1⟩;have Hp1:=hid hp1;clear hp1)
 go_ret
 exact ⟨rfl,Hp1.out⟩
theorem rec5_any (n q:Nat) (S:SD) (m:Nat) (w:World) (h:St n S w) (hok:SOk m S) (hq:QB q n w):Calls Tryz.prog 74 #[.pointer (some ⟨q,0,none⟩)] w fun e w'=>e=.returned (.string (bs (86::viewB S.view)))∧Pure w w':=by
 obtain ⟨r,h1,h2⟩:=h
 obtain ⟨v,ev,hv,-⟩:=h2.view
 have c:=h1.row 49
 rw [ev] at c
 simp only [Nat.reduceAdd] at c
 obtain ⟨a,cp,rfl⟩:=Peers.shape hv
 have hc:=hid (sseen_any _ S.view w hv hok.view)
 have q0:=hq.cell
 clear h1 h2 hok hq ev hv
 go_enter Tryz.func74,Tryz.ntmps74
 go_wp2_with (go_at_call 27;refine hc.out.mono ?_;rintro e w1 ⟨rfl,hp1⟩;have Hp1:=hid hp1;clear hp1)
 go_ret
 exact ⟨rfl,Hp1.out⟩
theorem rec6_any (n q:Nat) (S:SD) (m:Nat) (w:World) (h:St n S w) (hok:SOk m S) (hq:QB q n w):Calls Tryz.prog 75 #[.pointer (some ⟨q,0,none⟩)] w fun e w'=>e=.returned (.string (bs (72::holdsB S.holds)))∧Pure w w':=by
 obtain ⟨r,h1,h2⟩:=h
 obtain ⟨v,ev,hv,-⟩:=h2.holds
 have c:=h1.row 50
 rw [ev] at c
 simp only [Nat.reduceAdd] at c
 obtain ⟨a,cp,rfl⟩:=hv.shape
 have hc:=hid (sheld_any _ S.holds w hv hok.holds)
 have q0:=hq.cell
 clear h1 h2 hok hq ev hv
 go_enter Tryz.func75,Tryz.ntmps75
 go_wp2_with (go_at_call 29;refine hc.out.mono ?_;rintro e w1 ⟨rfl,hp1⟩;have Hp1:=hid hp1;clear hp1)
 go_ret
 exact ⟨rfl,Hp1.out⟩
theorem rec7_any (bp bb:Nat) (p:Nat) (v0 v1 v2:Value) (g:Bag) (m:Nat) (w:World) (hx:BX bb v0 v1 v2 g w) (hb:w.heap[bp]?=some (.cells #[.int .i64 p] 3 (0,0))) (hg:BN m g) (hm:m≤10000) (hp:p<1000000) :
 Calls Tryz.prog 77 #[.pointer (some ⟨bp,0,none⟩),.pointer (some ⟨bb,0,none⟩)] w fun e w'=>e=.returned (.string (bs (66::(num p++bagB g))))∧Pure w w':=by
 have hc:=hid (sjoined_any p v0 v1 v2 g m w hx.r hg hm hp)
 obtain ⟨x0,x1,x2⟩:=hx.cells
 have p0:=cob hb 0
 simp at p0
 clear hx hb hg
 go_enter Tryz.func77,Tryz.ntmps77
 go_wp2_with (go_at_call 23;refine hc.out.mono ?_;rintro e w1 ⟨rfl,hp1⟩;have Hp1:=hid hp1;clear hp1)
 go_ret
 exact ⟨rfl,Hp1.out⟩
theorem put_any2 (b:Bool) (g:Nat) (cb:Array Value) (eg:∀args w,(callFunc g args).run Tryz.prog w=.ok (.enter g args) w) (t:List UInt8) (o:Nat) (w6 W:World) (L:List (List UInt8)) (hO:OB o w6 L W) (hL:L.length≤1000) (hrec:∀W',Pure W W'→Calls Tryz.prog g cb W' fun e w'=>e=.returned (.string (bs t))∧Pure W' w') :
 Calls Tryz.prog 70 #[.bool b,.func (.func g) #[] cb,.pointer (some ⟨o,0,none⟩)] W fun e w'=>e=.returned (.tuple #[])∧OB o w6 (L++rec1 b t) w':=by
 cases b with
 | true=>exact put_yes g cb eg t o w6 W L hO hL hrec
 | false =>
   refine (put_no _ _ W).mono ?_
   rintro e w' ⟨rfl,rfl⟩
   exact ⟨rfl,by simpa [rec1] using hO⟩
theorem run_index_bag (W:World) (B:List Value) (k:Nat) (hk:k<16) (v0 v1 v2:Value) (h0:B[k*3]?=some v0) (h1:B[k*3+1]?=some v1) (h2:B[k*3+2]?=some v2) :
 (Instr.index 48 (.agg B.toArray) (.int .i64 (k:Int))).run Tryz.prog W=.ok (.agg #[v0,v1,v2]) W:=by
 have u1:=run_underlying (w:=W) Tryz.underlying48
 have hsz:(sizeOf 34).run Tryz.prog W=.ok 3 W:=by kernel_rfl
 have hx:List.take 3 (List.drop (k*3) B)=[v0,v1,v2]:=by
  apply List.ext_getElem?
  intro i
  simp only [List.getElem?_take,List.getElem?_drop]
  rcases i with _|_|_|i
  ·simpa using h0
  ·simpa using h1
  ·simpa using h2
  ·rw [if_neg oe];simp
 simp [Instr.index,asIntOf,u1,part,hsz,hk,hx]
end
section
set_option maxHeartbeats 8000000
set_option maxRecDepth 20000
open Go.RowKit Go.Maps Go.Shelf
theorem put_any3 (b:Bool) (g:Nat) (cb:Array Value) (eg:∀args w,(callFunc g args).run Tryz.prog w=.ok (.enter g args) w) (t:List UInt8) (o:Nat) (w6 W:World) (L:List (List UInt8)) (k:Nat) (hO:OB o w6 L W∧L.length≤k) (hk:k≤1000) (hrec:∀W',Pure W W'→Calls Tryz.prog g cb W' fun e w'=>e=.returned (.string (bs t))∧Pure W' w') :
 Calls Tryz.prog 70 #[.bool b,.func (.func g) #[] cb,.pointer (some ⟨o,0,none⟩)] W fun e w'=>e=.returned (.tuple #[])∧OB o w6 (L++rec1 b t) w'∧(L++rec1 b t).length≤k+1 :=
 (put_any2 b g cb eg t o w6 W L hO.1 (Nat.le_trans hO.2 hk) hrec).mono fun _ _ h=>⟨h.1,h.2,by have:=rec1_len b t;have:=hO.2;rw [List.length_append];omega⟩
theorem srecs_any (n:Nat) (S:SD) (m:Nat) (w:World) (h:St n S w) (hok:SOk m S) (hm:m≤10000) :
 Calls Tryz.prog 31 #[.pointer (some ⟨n,0,none⟩)] w (StrsO w (srecs S)):=by
 have Hst:=hid h
 have Hok:=hid hok
 obtain ⟨r,h1,h2⟩:=h
 have hnl:=h1.lt
 obtain ⟨vt,et,ht,-⟩:=h2.tags
 obtain ⟨vv,ev,hv,-⟩:=h2.view
 obtain ⟨vh,eh,hh,-⟩:=h2.holds
 obtain ⟨ta,tc,rfl⟩:=ht.shape
 obtain ⟨va,vc,rfl⟩:=Peers.shape hv
 obtain ⟨ha,hc,rfl⟩:=hh.shape
 clear ht hv hh
 have H1:=hid h1
 have H2:=hid h2
 obtain ⟨q,hq⟩:=qe (w.heap.size)
 obtain ⟨o,ho⟩:=qe (w.heap.size+1)
 obtain ⟨W2,hW2⟩:=qe ((w.alloc (.cells #[.pointer (some ⟨n,0,none⟩)] 24)).alloc (.cells #[.slice none 0 0] 61))
 have P2:=qh (Pure w W2) (by rw [hW2];exact qp.alloc qb _)
 have s2:W2.heap.size=w.heap.size+2:=by rw [hW2];simp
 have q1:QB q n W2:=by unfold QB;rw [hW2,hq];exact bao (ban _ _) _
 have q2:W2.heap[o]?=some (.cells #[.slice none 0 0] 61 (0,0)):=by
  have:=ban (w.alloc (.cells #[.pointer (some ⟨n,0,none⟩)] 24)) (.cells #[.slice none 0 0] 61)
  simp only [World.size_alloc] at this
  rw [hW2,ho];exact this
 have HO0:=qh (OB o W2 [] W2∧([]:List (List UInt8)).length≤0) (⟨⟨⟨_,q2,World.ownsRow_nil _ _ _ _⟩,Kept.refl _ _,by omega⟩,Nat.le_refl _⟩)
 have HP:Hid (∀L W,OB o W2 L W→Pure w W):=fun L W hO=>(Kept.then_ (S:=fun _=>False) P2.out.kept hO.k (fun i hi e=>by omega)).below (Nat.le_refl _) (fun _ _ h=>h)
 have HQ:Hid (∀L W,OB o W2 L W→QB q n W):=fun L W hO=>(hO.k.block q (lob q1) oe).trans q1
 have HF:Hid (∀L W,OB o W2 L W→(W.cell? ⟨q,0,none⟩=some (.pointer (some ⟨n,0,none⟩))∧W.cell? ⟨n,0,none⟩=some (.int .i64 S.id)∧W.cell? ⟨n,1,none⟩=some (.int .i64 S.up)∧W.cell? ⟨n,50,none⟩=some (.slice ta S.tags.length tc)∧W.cell? ⟨n,51,none⟩=some (.slice va S.view.length vc)∧W.cell? ⟨n,52,none⟩=some (.slice ha S.holds.length hc))):=fun L W hO=>by
  have e:=H1.out.pure (HP.out L W hO)
  obtain ⟨c0,c1,-,-⟩:=e.cells
  exact ⟨(HQ.out L W hO).cell,c0,c1,(e.row 48).trans et,(e.row 49).trans ev,(e.row 50).trans eh⟩
 have hrec2:=hid (fun L W (hO:OB o W2 L W) W' (hW:Pure W W')=>rec2_any n q S m W' ((Hst.out.pure (HP.out L W hO)).pure hW) Hok.out ((HQ.out L W hO).pure hW))
 have hrec3:=hid (fun L W (hO:OB o W2 L W) W' (hW:Pure W W')=>rec3_any n q S m W' ((Hst.out.pure (HP.out L W hO)).pure hW) Hok.out ((HQ.out L W hO).pure hW))
 have hrec4:=hid (fun L W (hO:OB o W2 L W) W' (hW:Pure W W')=>rec4_any n q S m W' ((Hst.out.pure (HP.out L W hO)).pure hW) Hok.out ((HQ.out L W hO).pure hW))
 have hrec5:=hid (fun L W (hO:OB o W2 L W) W' (hW:Pure W W')=>rec5_any n q S m W' ((Hst.out.pure (HP.out L W hO)).pure hW) Hok.out ((HQ.out L W hO).pure hW))
 have hrec6:=hid (fun L W (hO:OB o W2 L W) W' (hW:Pure W W')=>rec6_any n q S m W' ((Hst.out.pure (HP.out L W hO)).pure hW) Hok.out ((HQ.out L W hO).pure hW))
 obtain ⟨B,hB⟩:=qe (r.take 48)
 have HB:=hid (fun j (hj:j<48)=>(show B[j]?=r[j]? from by rw [hB,List.getElem?_take,if_pos hj]))
 have hBl:B.length=48:=by rw [hB,List.length_take,h2.len];rfl
 have Hrg:=hid (fun W (hW:Pure w W)=>(show W.rangeAt n 2 B from fun j v hj=>by
  obtain ⟨hj1,hj2⟩:=List.getElem?_eq_some_iff.1 hj
  have e:=(H1.out.pure hW).row j
  rw [Nat.add_comm 2 j,e,←HB.out j oe]
  exact hj))
 have Hbl:=hid hBl
 have hmf:∀(fn:Fn) (first cap:Array Value) (w:World),(Instr.makeFunc fn first cap).run Tryz.prog w=.ok (.func fn first cap) w:=fun _ _ _ _=>rfl
 obtain ⟨k1,c0,c1,c2,c3,c4⟩:=HF.out _ _ HO0.out.1
 have Hs2:=hid s2
 have Hho:=hid ho
 have Hhq:=hid hq
 clear h1 h2 hB hBl q1 q2 et ev eh hok s2
 go_enter Tryz.func31,Tryz.ntmps31
 rw [hW2] at k1 c0 c1 c2 c3 c4
 rw [hq] at k1
 go_wp2_with fail
 clear k1 c0 c1 c2 c3 c4
 rw [←hW2,←ho,←hq]
 clear hW2 hq ho
 refine (put_any3 (S.id != 0) 71 #[.pointer (some ⟨q,0,none⟩)] (enters_of Tryz.func71 qk rfl) _ o W2 W2 _ 0 HO0.out oe (hrec2.out _ _ HO0.out.1)).mono ?_
 rintro e w3 ⟨rfl,hO⟩
 have HO1:=hid hO
 clear hO
 obtain ⟨k1,c0,c1,c2,c3,c4⟩:=HF.out _ _ HO1.out.1
 go_wp2_with fail
 clear k1 c0 c1 c2 c3 c4
 refine (put_any3 (S.up != 0) 72 #[.pointer (some ⟨q,0,none⟩)] (enters_of Tryz.func72 qk rfl) _ o W2 w3 _ 1 HO1.out oe (hrec3.out _ _ HO1.out.1)).mono ?_
 rintro e w4 ⟨rfl,hO⟩
 have HO2:=hid hO
 clear hO
 obtain ⟨k1,c0,c1,c2,c3,c4⟩:=HF.out _ _ HO2.out.1
 go_wp2_with fail
 clear k1 c0 c1 c2 c3 c4
 refine (put_any3 (decide (0<S.tags.length)) 73 #[.pointer (some ⟨q,0,none⟩)] (enters_of Tryz.func73 qk rfl) _ o W2 w4 _ 2 HO2.out oe (hrec4.out _ _ HO2.out.1)).mono ?_
 rintro e w5 ⟨rfl,hO⟩
 have HO3:=hid hO
 clear hO
 obtain ⟨k1,c0,c1,c2,c3,c4⟩:=HF.out _ _ HO3.out.1
 go_wp2_with fail
 clear k1 c0 c1 c2 c3 c4
 refine (put_any3 (decide (0<S.view.length)) 74 #[.pointer (some ⟨q,0,none⟩)] (enters_of Tryz.func74 qk rfl) _ o W2 w5 _ 3 HO3.out oe (hrec5.out _ _ HO3.out.1)).mono ?_
 rintro e w6 ⟨rfl,hO⟩
 have HO4:=hid hO
 clear hO
 obtain ⟨k1,c0,c1,c2,c3,c4⟩:=HF.out _ _ HO4.out.1
 go_wp2_with fail
 clear k1 c0 c1 c2 c3 c4
 refine (put_any3 (decide (0<S.holds.length)) 75 #[.pointer (some ⟨q,0,none⟩)] (enters_of Tryz.func75 qk rfl) _ o W2 w6 _ 4 HO4.out oe (hrec6.out _ _ HO4.out.1)).mono ?_
 rintro e w7 ⟨rfl,hO⟩
 have HO5:=hid hO
 clear hO
 have HO6:=qh (OB o W2 (srecN S 0) w7) (by
  have:=HO5.out.1
  have e:srecN S 0=[]++rec1 (S.id != 0) (73::num S.id.toNat)++rec1 (S.up != 0) (82::num S.up.toNat)++rec1 (decide (0<S.tags.length)) (78::tagsB S.tags)++rec1 (decide (0<S.view.length)) (86::viewB S.view)++rec1 (decide (0<S.holds.length)) (72::holdsB S.holds):=by
   unfold srecN srec0;simp
  rw [e];exact this)
 clear HO0 HO1 HO2 HO3 HO4 HO5 hrec2 hrec3 hrec4 hrec5 hrec6
 obtain ⟨k1,c0,c1,c2,c3,c4⟩:=HF.out _ _ HO6.out
 go_upto_region 10 with fail
 refine wp_region_lit ?_
 iterate 3
  refine wpList_plain rfl fun K0 hK0=>?_
  have H0:=hid hK0
  clear hK0
  go_wp2
  refine H0.out _ _ ?_
  clear H0
 refine wpList_load_mid rfl _ _ rfl n 2 rfl _ _ (Hrg.out w7 (HP.out _ _ HO6.out)) Tryz.underlying48 rfl (by rw [Hbl.out];kernel_rfl) ?_
 clear k1 c0 c1 c2 c3 c4
 go_wp2_with fail
 go_loopw [57] (fun i wr=>∃k:Nat,k≤16∧i=.int .i64 k∧OB o W2 (srecN S k) wr) (fun i _=>16-(RowKit.intOf i).toNat)
 case atStart=>exact ⟨0,by omega,rfl,HO6.out⟩
 case round =>
  obtain ⟨k,hk,rfl,hO⟩:=hrel
  have HO:=hid hO
  clear hO
  by_cases hlt:k<16
  ·have hlt' : (k:Int)<16:=by omega
   obtain ⟨v0,v1,v2,e0,e1,e2,hbr,-,-,-⟩:=H2.out.bag k hlt
   have Hbn:=hid (Hok.out.bag k)
   have Hsucc:=hid (srecN_succ S k)
   have hlen:=srecN_len S k
   unfold brec at Hsucc
   generalize S.bags.getD k nb=g at *
   obtain ⟨a0,z0,rfl⟩:=hbr.1.shape
   obtain ⟨a1,z1,rfl⟩:=hbr.2.1.shape
   obtain ⟨a2,z2,rfl⟩:=hbr.2.2.shape
   have hidx:=fun W=>run_index_bag W B k hlt _ _ _ ((HB.out _ oe).trans e0) ((HB.out _ oe).trans e1) ((HB.out _ oe).trans e2)
   have Hbr:=hid (fun W (hW:Pure wr W)=>(hbr.pure (HP.out _ _ HO.out)).pure hW)
   clear hbr e0 e1 e2
   generalize g.1.length=l0 at *
   generalize g.2.1.length=l1 at *
   generalize g.2.2.length=l2 at *
   obtain ⟨ty,hty⟩:=qe ((wr.alloc (.cells #[.int .i64 k] 3)).alloc (.cells #[.slice a0 l0 z0,.slice a1 l1 z1,.slice a2 l2 z2] 34))
   have Pty:=qh (Pure wr ty) (by rw [hty];exact qp.alloc qb _)
   have Xty:=qh (BX (wr.heap.size+1) (.slice a0 l0 z0) (.slice a1 l1 z1) (.slice a2 l2 z2) g ty) (by
    have:=BX.made ((Hbr.out wr (Below.refl _ _)).pure ((Below.refl _ _).alloc (Nat.le_refl _) (.cells #[.int .i64 k] 3)))
    rw [World.size_alloc] at this
    rw [hty];exact this)
   have Ity:=qh (ty.heap[wr.heap.size]?=some (.cells #[.int .i64 k] 3 (0,0))) (by rw [hty];exact bao (ban _ _) _)
   have hsm:=hid (mbsame_any (.agg #[.slice a0 l0 z0,.slice a1 l1 z1,.slice a2 l2 z2]) (.agg #[.slice none 0 0,.slice none 0 0,.slice none 0 0]) g nb ty Xty.out.r.at (show BR3 _ _ _ nb ty from ⟨Row.nil _ _,Row.nil _ _,Row.nil _ _⟩).at)
   have hrec7:=hid (fun W' (hW:Pure ty W')=>rec7_any wr.heap.size (wr.heap.size+1) k _ _ _ g m W' (Xty.out.pure hW) ((hW.block _ (lob Ity.out)).trans Ity.out) Hbn.out hm oe)
   go_wp2_with fail
   rw [←hty]
   clear hty hidx
   refine hsm.out.mono ?_
   rintro e w8 ⟨rfl,hp8⟩
   have Hp8:=hid hp8
   clear hp8
   go_wp2_with fail
   refine (put_any3 (!decide (g=nb)) 77 #[.pointer (some ⟨wr.heap.size,0,none⟩),.pointer (some ⟨wr.heap.size+1,0,none⟩)] (enters_of Tryz.func77 qk rfl) _ o W2 w8 _ (5+k) ⟨HO.out.pure (Pty.out.then_ Hp8.out),hlen⟩ oe (fun W' hW'=>hrec7.out W' (Hp8.out.then_ hW'))).mono ?_
   rintro e w9 ⟨rfl,hO9,-⟩
   have HO9:=qh (OB o W2 (srecN S (k+1)) w9) (by rw [Hsucc.out];exact hO9)
   clear hO9
   go_wp2
   go_roundw
   case rel=>exact ⟨k+1,by omega,by go_num,HO9.out⟩
   case measure=>simp [RowKit.intOf];omega
  ·obtain rfl:k=16:=by omega
   obtain ⟨v,e,hr⟩:=HO.out.ex
   obtain ⟨a9,z9,rfl⟩:=osd hr
   have t0:=cob e 0
   simp at t0
   have Hr:=hid hr
   clear e hr
   go_wp2
   go_ret
   exact ⟨_,rfl,own_mono Hr.out (by have:=Hs2.out;omega),HP.out _ _ HO.out⟩
end
end Go.Proofs.YtdlpnhfgjficgaaGreat
