import Derived.Test.YtdlpnhfgjficgaaGreatMX48
namespace Go.Proofs.YtdlpnhfgjficgaaGreat
section
set_option maxHeartbeats 4000000
set_option maxRecDepth 20000
open Go.RowKit Go.Maps Go.Shelf
def loadL:SD→List (List UInt8)→SD × Int
 | S,[]=>(S,0)
 | S,t::r=>if (appl S t).2=0 then loadL (appl S t).1 r else (S,(appl S t).2)
def LFit (P:SD→List UInt8→Prop):SD→List (List UInt8)→Prop
 | _,[]=>True
 | S,t::r=>P S t∧((appl S t).2=0→LFit P (appl S t).1 r)
def StepOk (S:SD) (t:List UInt8):Prop:=∃K M c,SOk K S∧BN M (S.bags.getD (prt t) nb)∧BN c (bsz t)∧M+c≤3000
def StepR (S:SD) (t:List UInt8):Prop:=∃M,SOk M S∧RFit S t
theorem loadL_app {P:SD→List UInt8→Prop}:∀(A B:List (List UInt8)) (S S' : SD),LFit P S A→loadL S A=(S',0)→LFit P S' B→LFit P S (A++B)∧loadL S (A++B)=loadL S' B
 | [],B,S,S',_,h,hB=>by
   rw [loadL] at h
   injection h with h
   subst h
   exact ⟨hB,rfl⟩
 | t::A,B,S,S',hA,h,hB=>by
   rw [loadL] at h
   rw [LFit] at hA
   rw [List.cons_append,LFit,loadL]
   by_cases h0:(appl S t).2=0
   ·rw [if_pos h0] at h ⊢
    obtain ⟨h1,h2⟩:=loadL_app A B (appl S t).1 S' (hA.2 h0) h hB
    exact ⟨⟨hA.1,fun _=>h1⟩,h2⟩
   ·rw [if_neg h0] at h
    injection h with _ h
    exact absurd h h0
theorem loadL_one {P:SD→List UInt8→Prop} (b:Bool) (t:List UInt8) (S S' : SD) (h1:b=true→P S t∧appl S t=(S',0)) (h0:b=false→S'=S):LFit P S (rec1 b t)∧loadL S (rec1 b t)=(S',0):=by
 cases b with
 | false=>rw [h0 rfl];exact ⟨trivial,rfl⟩
 | true =>
   obtain ⟨p,e⟩:=h1 rfl
   have e1:(appl S t).1=S':=by rw [e]
   have e2:(appl S t).2=0:=by rw [e]
   refine ⟨⟨p,fun _=>trivial⟩,?_⟩
   show (if (appl S t).2=0 then loadL (appl S t).1 [] else (S,(appl S t).2))=(S',0)
   rw [if_pos e2,e1]
   rfl
theorem loadL_snoc {P:SD→List UInt8→Prop} {A:List (List UInt8)} {S S1 S' : SD} (b:Bool) (t:List UInt8) (hA:LFit P S A) (h:loadL S A=(S1,0)) (h1:b=true→P S1 t∧appl S1 t=(S',0)) (h0:b=false→S'=S1):LFit P S (A++rec1 b t)∧loadL S (A++rec1 b t)=(S',0):=by
 obtain ⟨k1,k2⟩:=loadL_one b t S1 S' h1 h0
 obtain ⟨q1,q2⟩:=loadL_app A (rec1 b t) S S1 hA h k1
 exact ⟨q1,q2.trans k2⟩
theorem LFit.rc {P:SD→List UInt8→Prop} (hP:∀M S t,SOk M S→BN 30 (bsz t)→M≤870→P S t):∀(L:List (List UInt8)) (M:Nat) (S:SD),SOk M S→(∀t ∈ L,BN 30 (bsz t))→M+30*L.length≤900→LFit P S L
 | [],_,_,_,_,_=>trivial
 | t::L,M,S,h,hb,hM=>by
   have ht:=hb t qb
   rw [List.length_cons] at hM
   exact ⟨hP M S t h ht oe,fun _=>LFit.rc hP L (M+30) _ (h.appl ht) (fun u hu=>hb u (by simp [hu])) oe⟩
theorem stepOk_rc (M:Nat) (S:SD) (t:List UInt8) (h:SOk M S) (hb:BN 30 (bsz t)) (hM:M≤870):StepOk S t:=⟨M,M,30,h,h.bag _,hb,by omega⟩
theorem stepR_rc (M:Nat) (S:SD) (t:List UInt8) (h:SOk M S) (hb:BN 30 (bsz t)) (hM:M≤870):StepR S t:=⟨M,h,RFit.of h hb hM⟩
theorem loadL_ok (M:Nat):∀(L:List (List UInt8)) (S:SD),SOk M S→(∀t ∈ L,BN 30 (bsz t))→SOk (M+30*L.length) (loadL S L).1
 | [],S,h,_=>h
 | t::L,S,h,hb=>by
   rw [loadL]
   have ht:=hb t qb
   have h1:=h.appl ht
   have hk:∀{a b:Nat} {T:SD},SOk a T→a≤b→SOk b T:=fun h e=>⟨h.id0,h.id1,h.up0,h.up1,h.bn,fun p=>(h.bag p).mono e,h.tags,h.view,h.holds⟩
   split
   ·have:=loadL_ok (M+30) L _ h1 (fun u hu=>hb u (by simp [hu]))
    exact hk this (by rw [List.length_cons];omega)
   ·exact hk h oe
def LdP (K:Nat→SD→World→Prop) (T:SD × Int) (w:World) (e:Ending) (w' : World):Prop:=(∃n,T.2=0∧w.heap.size≤n∧e=.returned (.tuple #[.pointer (some ⟨n,0,none⟩),.int .i64 0])∧K n T.1 w'∧Pure w w')∨(T.2≠0∧e=.returned (.tuple #[.pointer none,.int .i64 T.2])∧Pure w w')
theorem LdP.ok {K:Nat→SD→World→Prop} {T:SD × Int} {w w' : World} {S:SD} (n:Nat) (hT:(S,(0:Int))=T) (hn:w.heap.size≤n) (h:K n S w') (hp:Pure w w'):LdP K T w (.returned (.tuple #[.pointer (some ⟨n,0,none⟩),.int .i64 0])) w':=by
 subst hT;exact .inl ⟨n,rfl,hn,rfl,h,hp⟩
theorem LdP.no {K:Nat→SD→World→Prop} {T:SD × Int} {w w' : World} {E:Int} (hT:T.2=E) (hE:E≠0) (hp:Pure w w'):LdP K T w (.returned (.tuple #[.pointer none,.int .i64 E])) w':=by
 subst hT;exact .inr ⟨hE,rfl,hp⟩
theorem drop_cons {L:List (List UInt8)} {k:Nat} (h:k<L.length):L.drop k=L.getD k []::L.drop (k+1):=by
 rw [List.drop_eq_getElem_cons h];simp [List.getD,h]
theorem sload_any (v:Value) (L:List (List UInt8)) (w:World) (hr:Strs w v L) (hf:LFit StepOk S0 L) :
 Calls Tryz.prog 40 #[v] w (LdP (fun n=>St2 n n) (loadL S0 L) w):=by
 obtain ⟨a,ca,rfl⟩:=hr.shape
 have hml:L.length≤maxLen:=Row.len_le hr
 unfold maxLen at hml
 have Hr:=hid (fun W (hW:Pure w W)=>(show Strs W (.slice a L.length ca) L from Row.pure hr hW))
 have Hf:=hid hf
 clear hr hf
 obtain ⟨T,hT⟩:=qe (loadL S0 L)
 have HT:=hid hT
 rw [←hT]
 clear hT
 go_enter Tryz.func40,Tryz.ntmps40
 go_wp2_with fail
 go_step3
 go_wp2_with fail
 refine (snew_any _).mono ?_
 rintro e w2 ⟨rfl,hs2,hp2⟩
 have Hp2:=hid hp2
 have Hs2:=qh (St2 w.heap.size w.heap.size S0 w2) ((St.zero hs2).two)
 clear hs2 hp2
 generalize hn:w.heap.size=n at *
 have Hn:=qh (w.heap.size≤n) (by omega)
 clear hn
 go_wp2_with fail
 go_step3
 go_wp2_with fail
 go_loopw [5,11] (fun ev i wr=>∃(k:Nat) (S:SD),k≤L.length∧ev=.int .i64 0∧i=.int .i64 k∧St2 n n S wr∧LFit StepOk S (L.drop k)∧loadL S (L.drop k)=T∧Pure w wr) (fun _ i _=>L.length-(RowKit.intOf i).toNat)
 case atStart=>exact ⟨0,S0,Nat.zero_le _,rfl,rfl,Hs2.out,Hf.out,HT.out.symm,Hp2.out⟩
 case round =>
  obtain ⟨k,S,hk,rfl,rfl,hst,hfk,hlk,hpr⟩:=hrel
  have Hst:=hid hst
  have Hpr:=hid hpr
  clear hst hpr Hf HT Hs2 Hp2
  by_cases hlt:k<L.length
  ·have hlt' : (k:Int)<(L.length:Int):=by omega
   rw [drop_cons hlt] at hfk hlk
   rw [LFit] at hfk
   rw [loadL] at hlk
   obtain ⟨b,off,rfl,hb0,x0⟩:=Strs.get (Hr.out wr Hpr.out) hlt
   generalize L.getD k []=t at *
   obtain ⟨⟨K,M,c,hok,hg,hb,hMc⟩,hnext⟩:=hfk
   have HA:=hid (sapply_fit n n K M c S t wr Hst.out Hst.out.lt hok hg hb hMc)
   unfold ApP at HA
   have Hnext:=hid hnext
   have Hlk:=hid hlk
   clear hok hg hb hMc hnext hlk hb0
   generalize (appl S t).1=S1 at *
   generalize (appl S t).2=E at *
   obtain ⟨R,hR⟩:=qe (L.drop (k+1))
   have HR:=hid hR
   rw [←hR] at Hnext Hlk
   clear hR
   by_cases hE:E=0
   ·subst hE
    have Hlk2:=qh (loadL S1 R=T) (by have:=Hlk.out;rwa [if_pos rfl] at this)
    have Hn2:=hid (Hnext.out rfl)
    clear Hlk Hnext
    go_wp2_with fail
    refine HA.out.mono ?_
    rintro e w5 ⟨rfl,hs5,hk5⟩
    have HS5:=hid hs5
    have HP5:=hid (pure_box Hpr.out hk5 Hn.out)
    clear hs5 hk5 HA x0
    go_wp2
    go_roundw
    case rel=>exact ⟨k+1,S1,by omega,rfl,by go_num,HS5.out,by rw [←HR.out];exact Hn2.out,by rw [←HR.out];exact Hlk2.out,HP5.out⟩
    case measure=>simp [RowKit.intOf];omega
   ·have HT2:=qh (T.2=E) (by have:=Hlk.out;rw [if_neg hE] at this;rw [←this])
    have hne:(E != 0)=true:=by simp [hE]
    have HE:=hid hE
    clear Hlk Hnext hE
    go_wp2_with fail
    refine HA.out.mono ?_
    rintro e w5 ⟨rfl,hs5,hk5⟩
    have HP5:=hid (pure_box Hpr.out hk5 Hn.out)
    clear hs5 hk5 HA x0
    go_wp2
    rw [Exit.noGoto_ret]
    exact bodyPost_ret (v:=.tuple #[.pointer none,.int .i64 E]) (by simp [results,Tryz.results40,go_sem]) rfl (LdP.no HT2.out HE.out HP5.out)
  ·have hlt' : ¬(k:Int)<(L.length:Int):=by omega
   have HT2:=qh ((S,(0:Int))=T) (by rw [List.drop_of_length_le oe] at hlk;exact hlk)
   clear hfk hlk
   go_wp2
   first|rw [Exit.noGoto_ret]|skip
   exact bodyPost_ret (v:=.tuple #[.pointer (some ⟨n,0,none⟩),.int .i64 0]) (by simp [results,Tryz.results40,go_sem]) rfl (LdP.ok n HT2.out Hn.out Hst.out Hpr.out)
theorem rload_any (v:Value) (L:List (List UInt8)) (w:World) (hr:Strs w v L) (hf:LFit StepR S0 L) :
 Calls Tryz.prog 41 #[v] w (LdP (fun n=>RSt2 n n) (loadL S0 L) w):=by
 obtain ⟨a,ca,rfl⟩:=hr.shape
 have hml:L.length≤maxLen:=Row.len_le hr
 unfold maxLen at hml
 have Hr:=hid (fun W (hW:Pure w W)=>(show Strs W (.slice a L.length ca) L from Row.pure hr hW))
 have Hf:=hid hf
 clear hr hf
 obtain ⟨T,hT⟩:=qe (loadL S0 L)
 have HT:=hid hT
 rw [←hT]
 clear hT
 go_enter Tryz.func41,Tryz.ntmps41
 go_wp2_with fail
 obtain ⟨w2,hw2⟩ : ∃w2,w.alloc (.cells #[.int .i64 0,.int .i64 0,.slice none 0 0,.slice none 0 0,.slice none 0 0,.slice none 0 0,.slice none 0 0,.slice none 0 0,.slice none 0 0,.slice none 0 0,.slice none 0 0,.slice none 0 0,.slice none 0 0,.slice none 0 0,.slice none 0 0,.slice none 0 0,.slice none 0 0,.slice none 0 0,.slice none 0 0,.slice none 0 0,.slice none 0 0,.slice none 0 0,.slice none 0 0,.slice none 0 0,.slice none 0 0,.slice none 0 0,.slice none 0 0,.slice none 0 0,.slice none 0 0,.slice none 0 0,.slice none 0 0,.slice none 0 0,.slice none 0 0,.slice none 0 0,.slice none 0 0,.slice none 0 0,.slice none 0 0,.slice none 0 0,.slice none 0 0,.slice none 0 0,.slice none 0 0,.slice none 0 0,.slice none 0 0,.slice none 0 0,.slice none 0 0,.slice none 0 0,.slice none 0 0,.slice none 0 0,.slice none 0 0,.slice none 0 0,.slice none 0 0,.slice none 0 0,.slice none 0 0] 53)=w2:=⟨_,rfl⟩
 have Hs2:=qh (RSt2 w.heap.size w.heap.size S0 w2) (RSt2.zero (by rw [←hw2];exact ban _ _))
 have Hp2:=qh (Pure w w2) (by rw [←hw2];exact qp)
 rw [hw2]
 clear hw2
 generalize hn:w.heap.size=n at *
 have Hn:=qh (w.heap.size≤n) (by omega)
 clear hn
 go_loopw [5] (fun i wr=>∃(k:Nat) (S:SD),k≤L.length∧i=.int .i64 k∧RSt2 n n S wr∧LFit StepR S (L.drop k)∧loadL S (L.drop k)=T∧Pure w wr) (fun i _=>L.length-(RowKit.intOf i).toNat)
 case atStart=>exact ⟨0,S0,Nat.zero_le _,rfl,Hs2.out,Hf.out,HT.out.symm,Hp2.out⟩
 case round =>
  obtain ⟨k,S,hk,rfl,hst,hfk,hlk,hpr⟩:=hrel
  have Hst:=hid hst
  have Hpr:=hid hpr
  clear hst hpr Hf HT Hs2 Hp2
  by_cases hlt:k<L.length
  ·have hlt' : (k:Int)<(L.length:Int):=by omega
   rw [drop_cons hlt] at hfk hlk
   rw [LFit] at hfk
   rw [loadL] at hlk
   obtain ⟨b,off,rfl,hb0,x0⟩:=Strs.get (Hr.out wr Hpr.out) hlt
   generalize L.getD k []=t at *
   obtain ⟨⟨M,hok,hfit⟩,hnext⟩:=hfk
   have HA:=hid (rapply_any n n M S t wr Hst.out Hst.out.lt hok hfit)
   unfold RApP at HA
   have Hnext:=hid hnext
   have Hlk:=hid hlk
   clear hok hfit hnext hlk hb0
   generalize (appl S t).1=S1 at *
   generalize (appl S t).2=E at *
   obtain ⟨R,hR⟩:=qe (L.drop (k+1))
   have HR:=hid hR
   rw [←hR] at Hnext Hlk
   clear hR
   by_cases hE:E=0
   ·subst hE
    have Hlk2:=qh (loadL S1 R=T) (by have:=Hlk.out;rwa [if_pos rfl] at this)
    have Hn2:=hid (Hnext.out rfl)
    clear Hlk Hnext
    go_wp2_with fail
    refine HA.out.mono ?_
    rintro e w5 ⟨rfl,hs5,hk5⟩
    have HS5:=hid hs5
    have HP5:=hid (pure_box Hpr.out hk5 Hn.out)
    clear hs5 hk5 HA x0
    go_wp2
    go_roundw
    case rel=>exact ⟨k+1,S1,by omega,by go_num,HS5.out,by rw [←HR.out];exact Hn2.out,by rw [←HR.out];exact Hlk2.out,HP5.out⟩
    case measure=>simp [RowKit.intOf];omega
   ·have HT2:=qh (T.2=E) (by have:=Hlk.out;rw [if_neg hE] at this;rw [←this])
    have hne:(E != 0)=true:=by simp [hE]
    have HE:=hid hE
    clear Hlk Hnext hE
    go_wp2_with fail
    refine HA.out.mono ?_
    rintro e w5 ⟨rfl,hs5,hk5⟩
    have HP5:=hid (pure_box Hpr.out hk5 Hn.out)
    clear hs5 hk5 HA x0
    go_wp2
    exact bodyPost_ret (v:=.tuple #[.pointer none,.int .i64 E]) (by simp [results,Tryz.results41,go_sem]) rfl (LdP.no HT2.out HE.out HP5.out)
  ·have hlt' : ¬(k:Int)<(L.length:Int):=by omega
   have HT2:=qh ((S,(0:Int))=T) (by rw [List.drop_of_length_le oe] at hlk;exact hlk)
   clear hfk hlk
   go_wp2
   skip
   exact bodyPost_ret (v:=.tuple #[.pointer (some ⟨n,0,none⟩),.int .i64 0]) (by simp [results,Tryz.results41,go_sem]) rfl (LdP.ok n HT2.out Hn.out Hst.out Hpr.out)
end
section
open Go.RowKit Go.Maps Go.Shelf
def cutB (B:List Bag) (i:Nat):List Bag:=B.take i++List.replicate (16-i) nb
theorem cutB_len {B:List Bag} (hB:B.length=16) {i:Nat} (hi:i≤16):(cutB B i).length=16:=by
 unfold cutB
 rw [List.length_append,List.length_take,List.length_replicate];omega
theorem cutB_getD {B:List Bag} (hB:B.length=16) {i:Nat} (hi:i≤16) (p:Nat):(cutB B i).getD p nb=if p<i then B.getD p nb else nb:=by
 unfold cutB
 rw [List.getD_eq_getElem?_getD,List.getD_eq_getElem?_getD]
 by_cases h:p<i
 ·rw [if_pos h,List.getElem?_append_left (by rw [List.length_take];omega),List.getElem?_take,if_pos h]
 ·rw [if_neg h,List.getElem?_append_right (by rw [List.length_take];omega),List.getElem?_replicate]
  split <;> rfl
theorem bags_ext {A B:List Bag} (hA:A.length=16) (hB:B.length=16) (h:∀p,p<16→A.getD p nb=B.getD p nb):A=B:=by
 refine List.ext_getElem oe (fun p h1 h2=>?_)
 have:=h p oe
 simpa [List.getD,h1,h2] using this
theorem cutB_set {B:List Bag} (hB:B.length=16) {i:Nat} (hi:i<16):(cutB B i).set i (B.getD i nb)=cutB B (i+1):=by
 have hl:=cutB_len hB (Nat.le_of_lt hi)
 refine bags_ext (by rw [List.length_set,hl]) (cutB_len hB oe) (fun p hp=>?_)
 rw [set3_getD hl hi,cutB_getD hB oe,cutB_getD hB oe]
 by_cases h:p=i
 ·subst h;rw [if_pos rfl,if_pos oe]
 ·rw [if_neg h]
  by_cases h2:p<i
  ·rw [if_pos h2,if_pos oe]
  ·rw [if_neg h2,if_neg oe]
theorem cutB_skip {B:List Bag} (hB:B.length=16) {i:Nat} (hi:i<16) (h:B.getD i nb=nb):cutB B (i+1)=cutB B i:=by
 refine bags_ext (cutB_len hB oe) (cutB_len hB oe) (fun p hp=>?_)
 rw [cutB_getD hB oe,cutB_getD hB oe]
 by_cases h2:p<i
 ·rw [if_pos h2,if_pos oe]
 ·rw [if_neg h2]
  by_cases h3:p=i
  ·subst h3;rw [if_pos oe,h]
  ·rw [if_neg oe]
theorem cutB_all {B:List Bag} (hB:B.length=16):cutB B 16=B:=by
 refine bags_ext (cutB_len hB oe) hB (fun p hp=>?_)
 rw [cutB_getD hB oe,if_pos hp]
theorem part_ok {M:Nat} {S:SD} (ok:SOk M S) {a u:Int} {c:List Tag} {d:List Pr} {e:List Hold} {i:Nat} (hi:i≤16) (ha:a=0∨a=S.id) (hu:u=0∨u=S.up) (hc:c=[]∨c=S.tags) (hd:d=[]∨d=S.view) (he:e=[]∨e=S.holds):SOk M ⟨a,u,cutB S.bags i,c,d,e⟩:=by
 have h1:=ok.id0
 have h2:=ok.id1
 have h3:=ok.up0
 have h4:=ok.up1
 refine ⟨?_,?_,?_,?_,cutB_len ok.bn hi,fun p=>?_,?_,?_,?_⟩
 ·show 0≤a;rcases ha with rfl|rfl <;> omega
 ·show a≤1099511627776;rcases ha with rfl|rfl <;> omega
 ·show 0≤u;rcases hu with rfl|rfl <;> omega
 ·show u≤1099511627776;rcases hu with rfl|rfl <;> omega
 ·show BN M ((cutB S.bags i).getD p nb)
  rw [cutB_getD ok.bn hi]
  split
  ·exact ok.bag p
  ·exact BN.nil.mono (Nat.zero_le _)
 ·show TV c;rcases hc with rfl|rfl
  ·exact TV.nil
  ·exact ok.tags
 ·show VV d;rcases hd with rfl|rfl
  ·exact VV.nil
  ·exact ok.view
 ·show HV e;rcases he with rfl|rfl
  ·exact HV.nil
  ·exact ok.holds
theorem rdInt_own {k:Int} (h0:0≤k) (h1:k≤1099511627776):rdInt 1099511627776 (some (num k.toNat))=(k,some []):=by
 have h:=rdInt_num 1099511627776 k.toNat oe oe []
 rw [List.append_nil] at h
 rw [h,Int.toNat_of_nonneg h0]
theorem vfold_nil {l:List Pr} (h:VS l):vfold [] l=l:=by
 obtain ⟨h1,h2⟩:=vfold_spec l [] List.Pairwise.nil h
 refine KS.ext il_irr il_tr h1 h (fun k=>?_)
 have:=h2 k
 rw [show vget ([]:List Pr) k=none from rfl] at this
 refine this.trans ?_
 show vof none (vget l k)=vget l k
 cases vget l k <;> rfl
theorem bsz_no {c:UInt8} (l:List UInt8) (h:c≠66):bsz (c::l)=nb:=by
 unfold bsz
 dsimp only
 rw [if_neg h]
theorem reload0 {M:Nat} {S:SD} (ok:SOk M S) (hM:M≤1000):LFit StepOk S0 (srec0 S)∧loadL S0 (srec0 S)=(⟨S.id,S.up,cutB S.bags 0,S.tags,S.view,S.holds⟩,0):=by
 have hb0:∀T:SD,SOk M T→∀(c:UInt8) (l:List UInt8),c≠66→StepOk T (c::l):=fun T hT c l hc=>⟨M,M,0,hT,hT.bag _,by rw [bsz_no l hc];exact BN.nil,by omega⟩
 have i0:=ok.id0
 have i1:=ok.id1
 have u0:=ok.up0
 have u1:=ok.up1
 unfold srec0
 have q1:=loadL_one (P:=StepOk) (S.id != 0) (73::num S.id.toNat) S0 ⟨S.id,0,cutB S.bags 0,[],[],[]⟩ (fun h=>by
  have hne:S.id≠0:=by simpa using h
  refine ⟨hb0 _ (SOk.zero M) _ _ qd,?_⟩
  have e:apI 0 (num S.id.toNat)=(S.id,0):=by
   unfold apI
   rw [rdInt_own i0 i1,if_neg qc,if_neg qb]
  show ({ S0 with id:=(apI S0.id (num S.id.toNat)).1 },(apI S0.id (num S.id.toNat)).2)=_
  rw [show S0.id=0 from rfl,e]
  rfl) (fun h=>by
  have hz:S.id=0:=by simpa using h
  rw [hz];rfl)
 have q2:=loadL_snoc (P:=StepOk) (S':=⟨S.id,S.up,cutB S.bags 0,[],[],[]⟩) (S.up != 0) (82::num S.up.toNat) q1.1 q1.2 (fun h=>by
  have hne:S.up≠0:=by simpa using h
  refine ⟨hb0 _ (part_ok ok oe (.inr rfl) (.inl rfl) (.inl rfl) (.inl rfl) (.inl rfl)) _ _ qd,?_⟩
  have e:apR 0 (num S.up.toNat)=(S.up,0):=by
   unfold apR
   rw [rdInt_own u0 u1,if_neg qc]
   show (max 0 S.up,(0:Int))=_
   rw [Int.max_eq_right u0]
  show (({ id:=S.id,up:=(apR 0 (num S.up.toNat)).1,bags:=cutB S.bags 0,tags:=[],view:=[],holds:=[] }:SD),(apR 0 (num S.up.toNat)).2)=_
  rw [e]) (fun h=>by
  have hz:S.up=0:=by simpa using h
  rw [hz])
 have q3:=loadL_snoc (P:=StepOk) (S':=⟨S.id,S.up,cutB S.bags 0,S.tags,[],[]⟩) (decide (0<S.tags.length)) (78::tagsB S.tags) q2.1 q2.2 (fun h=>by
  refine ⟨hb0 _ (part_ok ok oe (.inr rfl) (.inr rfl) (.inl rfl) (.inl rfl) (.inl rfl)) _ _ qd,?_⟩
  have e:=rdTags_bytes ok.tags []
  rw [List.append_nil] at e
  show apN _ (tagsB S.tags)=_
  unfold apN
  rw [e,if_pos rfl]
  have e2:tjoin [] S.tags=S.tags:=by
   unfold tjoin
   rw [tmrg,List.take_of_length_le ok.tags.n]
  dsimp only
  rw [e2]) (fun h=>by
  have hz:S.tags=[]:=List.eq_nil_of_length_eq_zero (by have:=of_decide_eq_false h;omega)
  rw [hz])
 have q4:=loadL_snoc (P:=StepOk) (S':=⟨S.id,S.up,cutB S.bags 0,S.tags,S.view,[]⟩) (decide (0<S.view.length)) (86::viewB S.view) q3.1 q3.2 (fun h=>by
  refine ⟨hb0 _ (part_ok ok oe (.inr rfl) (.inr rfl) (.inr rfl) (.inl rfl) (.inl rfl)) _ _ qd,?_⟩
  have e:=rdView_bytes ok.view []
  rw [List.append_nil] at e
  show apV _ (viewB S.view)=_
  unfold apV
  rw [e,if_pos rfl]
  have e2:vjoin [] S.view=S.view:=by
   unfold vjoin
   rw [vfold_nil ok.view.r,List.take_of_length_le ok.view.n]
  dsimp only
  rw [e2]) (fun h=>by
  have hz:S.view=[]:=List.eq_nil_of_length_eq_zero (by have:=of_decide_eq_false h;omega)
  rw [hz])
 exact loadL_snoc (P:=StepOk) (decide (0<S.holds.length)) (72::holdsB S.holds) q4.1 q4.2 (fun h=>by
  refine ⟨hb0 _ (part_ok ok oe (.inr rfl) (.inr rfl) (.inr rfl) (.inr rfl) (.inl rfl)) _ _ qd,?_⟩
  have e:=rdHolds_bytes ok.holds []
  rw [List.append_nil] at e
  show apH _ (holdsB S.holds)=_
  unfold apH
  rw [e,if_pos rfl]) (fun h=>by
  have hz:S.holds=[]:=List.eq_nil_of_length_eq_zero (by have:=of_decide_eq_false h;omega)
  rw [hz])
theorem reloadN {M:Nat} {S:SD} (ok:SOk M S) (hM:M≤1000):∀i,i≤16→LFit StepOk S0 (srecN S i)∧loadL S0 (srecN S i)=(⟨S.id,S.up,cutB S.bags i,S.tags,S.view,S.holds⟩,0)
 | 0,_=>by
   have h:=reload0 ok hM
   have e:srecN S 0=srec0 S:=by unfold srecN;simp
   rw [e];exact h
 | i+1,hi=>by
   obtain ⟨h1,h2⟩:=reloadN ok hM i oe
   rw [srecN_succ]
   unfold brec
   refine loadL_snoc _ _ h1 h2 (fun h=>?_) (fun h=>?_)
   ·have hg:=(ok.bag i).mono hM
    have e:=rdJ_text (k:=i) oe hg
    have hnbag:(cutB S.bags i).getD i nb=nb:=by rw [cutB_getD ok.bn oe,if_neg oe]
    refine ⟨⟨M,0,M,part_ok ok oe (.inr rfl) (.inr rfl) (.inr rfl) (.inr rfl) (.inr rfl),?_,?_,by omega⟩,?_⟩
    ·show BN 0 ((cutB S.bags i).getD (rdJ (num i++bagB (S.bags.getD i nb))).1 nb)
     rw [e]
     show BN 0 ((cutB S.bags i).getD i nb)
     rw [hnbag];exact BN.nil
    ·show BN M (bsz (66::(num i++bagB (S.bags.getD i nb))))
     unfold bsz
     dsimp only
     rw [if_pos rfl,e]
     exact ok.bag i
    ·show apB _ (num i++bagB (S.bags.getD i nb))=_
     unfold apB
     rw [e,if_pos rfl]
     dsimp only
     have ha:=(ok.bag i).v.all
     have ej:bjoin nb (S.bags.getD i nb)=S.bags.getD i nb:=by
      exact (bjoin_comm (g:=nb) BV.nil.all ha).trans (bjoin_nil ha)
     rw [hnbag,ej,cutB_set ok.bn oe]
   ·have hz:S.bags.getD i nb=nb:=by simpa using h
    rw [cutB_skip ok.bn oe hz]
theorem reload {M:Nat} {S:SD} (ok:SOk M S) (hM:M≤1000):LFit StepOk S0 (srecs S)∧loadL S0 (srecs S)=(S,0):=by
 have h:=reloadN ok hM 16 (Nat.le_refl _)
 rw [cutB_all ok.bn] at h
 exact h
end
end Go.Proofs.YtdlpnhfgjficgaaGreat
