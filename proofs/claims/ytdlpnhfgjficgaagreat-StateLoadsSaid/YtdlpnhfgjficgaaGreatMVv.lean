import Derived.Test.YtdlpnhfgjficgaaGreatMJm
namespace Go.Proofs.YtdlpnhfgjficgaaGreat
section
open Go.RowKit Go.Maps
theorem il_irr (a:Int):¬a<a:=Int.lt_irrefl a
theorem il_tr (a b c:Int) (h:a<b) (k:b<c):a<c:=Int.lt_trans h k
abbrev VS (l:List Pr):Prop:=KS (fun p:Pr=>p.id) (fun a b:Int=>a<b) l
abbrev vget (l:List Pr) (k:Int):Option Pr:=kget (fun p:Pr=>p.id) l k
def pmay (p:Pr):Bool:=decide (1≤p.id) && decide (p.id≤1099511627776) && decide (0≤p.inc) && decide (p.inc≤1073741824) && decide (0≤p.st) && decide (p.st≤2)
def vat (l:List Pr) (k:Nat):Bool:=pmay (l.getD k p0) && (decide (k=0) || decide ((l.getD (k-1) p0).id<(l.getD k p0).id))
def vchk (l:List Pr):Bool:=decide (l.length≤64) && allB l.length (vat l)
structure VV (l:List Pr):Prop where
 n:l.length≤64
 r:VS l
 may:∀p ∈ l,pmay p=true
theorem vchk_iff {l:List Pr}:vchk l=true↔VV l:=by
 unfold vchk
 rw [Bool.and_eq_true,decide_eq_true_eq,allB_iff]
 constructor
 ·rintro ⟨h1,h2⟩
  have k2:∀k,k<l.length→pmay (l.getD k p0)=true∧(k=0∨(l.getD (k-1) p0).id<(l.getD k p0).id):=fun k hk=>by
   have:=h2 k hk
   unfold vat at this
   rw [Bool.and_eq_true,Bool.or_eq_true,decide_eq_true_eq,decide_eq_true_eq] at this
   exact this
  refine ⟨h1,pw_of_adj (fun x y:Pr=>x.id<y.id) (fun _ _ _ h k=>Int.lt_trans h k) p0 l (fun k hk=>(k2 k hk).2),fun t ht=>?_⟩
  obtain ⟨k,hk,rfl⟩:=get_mem (z:=p0) ht
  exact (k2 k hk).1
 ·intro h
  refine ⟨h.n,fun k hk=>?_⟩
  unfold vat
  rw [Bool.and_eq_true,Bool.or_eq_true,decide_eq_true_eq,decide_eq_true_eq]
  exact ⟨h.may _ (mem_of_get hk),adj_of_pw (fun x y:Pr=>x.id<y.id) p0 h.r hk⟩
theorem VV.nil:VV []:=⟨by simp,KS.nil,by simp⟩
def rdPeer (s:RS):Pr × RS:=(⟨(rdInt 1099511627776 s).1,(rdInt 1073741824 (rdInt 1099511627776 s).2).1,(rdInt 2 (rdInt 1073741824 (rdInt 1099511627776 s).2).2).1⟩,(rdInt 2 (rdInt 1073741824 (rdInt 1099511627776 s).2).2).2)
def rdView (s:RS):List Pr × RS :=
 match rdItems rdPeer (rdInt 64 s).1.toNat [] (rdInt 64 s).2 with
 | (_,none)=>([],none)
 | (l,some r)=>if vchk l then (l,some r) else ([],none)
def peerB (p:Pr):List UInt8:=num p.id.toNat++num p.inc.toNat++num p.st.toNat
def viewB (l:List Pr):List UInt8:=num l.length++l.flatMap peerB
theorem pmay_bd {p:Pr} (h:pmay p=true):1≤p.id∧p.id≤1099511627776∧0≤p.inc∧p.inc≤1073741824∧0≤p.st∧p.st≤2:=by
 unfold pmay at h
 simp only [Bool.and_eq_true,decide_eq_true_eq] at h
 omega
theorem rdPeer_bytes {p:Pr} (h:pmay p=true) (r:List UInt8):rdPeer (some (peerB p++r))=(p,some r):=by
 obtain ⟨h1,h2,h3,h4,h5,h6⟩:=pmay_bd h
 unfold rdPeer peerB
 rw [List.append_assoc,List.append_assoc,rdInt_num _ p.id.toNat oe oe]
 dsimp only
 rw [rdInt_num _ p.inc.toNat oe oe]
 dsimp only
 rw [rdInt_num _ p.st.toNat oe oe,Int.toNat_of_nonneg oe,Int.toNat_of_nonneg oe,Int.toNat_of_nonneg oe]
theorem rdView_bytes {l:List Pr} (h:VV l) (r:List UInt8):rdView (some (viewB l++r))=(l,some r):=by
 have hn:=h.n
 unfold rdView viewB
 rw [List.append_assoc,rdInt_num _ l.length oe oe]
 dsimp only
 rw [Int.toNat_natCast,rdItems_all rdPeer peerB l [] r (fun t ht r=>rdPeer_bytes (h.may t ht) r)]
 dsimp only
 rw [List.nil_append,if_pos (vchk_iff.2 h)]
theorem rdView_ok (s:RS):VV (rdView s).1:=by
 unfold rdView
 split
 ·exact VV.nil
 ·split
  ·rename_i h;exact vchk_iff.1 h
  ·exact VV.nil
def pins (p:Pr):List Pr→List Pr
 | []=>[p]
 | q::l=>if q.id=p.id then later q p::l else if p.id<q.id then p::q::l else q::pins p l
theorem later_id {a b:Pr} (h:a.id=b.id):(later a b).id=a.id:=by
 unfold later;split <;> split <;> (try split) <;> simp [h]
theorem later_may {a b:Pr} (ha:pmay a=true) (hb:pmay b=true):pmay (later a b)=true:=by
 unfold later;split <;> split <;> (try split) <;> assumption
theorem pins_get (p:Pr):∀(l:List Pr) (k:Int),VS l→vget (pins p l) k=if p.id=k then some (match vget l k with|some q=>later q p|none=>p) else vget l k
 | [],k,_=>by
   show kget _ [p] k=_
   rw [kget_cons];rfl
 | q::l,k,h=>by
   obtain ⟨h1,h2⟩:=List.pairwise_cons.1 h
   have ih:=pins_get p l k h2
   have e:vget (q::l) k=if q.id=k then some q else vget l k:=kget_cons _ _ _
   rw [pins]
   split
   ·rename_i hq
    show kget _ _ _=_
    rw [kget_cons,e,later_id hq,hq]
    by_cases hk:p.id=k <;> simp [hk]
   ·rename_i hq
    split
    ·rename_i hlt
     show kget _ _ _=_
     rw [kget_cons]
     by_cases hk:p.id=k
     ·have hn:vget (q::l) k=none:=kget_none.2 fun x hx e=>by
       rcases List.mem_cons.1 hx with rfl|hx
       ·omega
       ·have:=h1 x hx;dsimp only at this;omega
      rw [if_pos hk,if_pos hk,hn]
     ·rw [if_neg hk,if_neg hk]
    ·show kget _ _ _=_
     rw [kget_cons,e]
     by_cases hk:q.id=k
     ·rw [if_pos hk,if_neg oe,if_pos hk]
     ·rw [if_neg hk,if_neg hk];exact ih
theorem pins_mem (p:Pr):∀(l:List Pr) (x:Pr),x ∈ pins p l→x.id=p.id∨∃y ∈ l,y.id=x.id
 | [],x,h=>by simp [pins] at h;exact .inl (by rw [h])
 | q::l,x,h=>by
   rw [pins] at h
   split at h
   ·rename_i hq
    rcases List.mem_cons.1 h with rfl|h
    ·exact .inl ((later_id hq).trans hq)
    ·exact .inr ⟨x,List.mem_cons_of_mem _ h,rfl⟩
   ·split at h
    ·rcases List.mem_cons.1 h with rfl|h
     ·exact .inl rfl
     ·exact .inr ⟨x,h,rfl⟩
    ·rcases List.mem_cons.1 h with rfl|h
     ·exact .inr ⟨_,by simp,rfl⟩
     ·rcases pins_mem p l x h with h|⟨y,hy,e⟩
      ·exact .inl h
      ·exact .inr ⟨y,List.mem_cons_of_mem _ hy,e⟩
theorem pins_rise (p:Pr):∀{l:List Pr},VS l→VS (pins p l)
 | [],_=>List.pairwise_singleton _ _
 | q::l,h=>by
   obtain ⟨h1,h2⟩:=List.pairwise_cons.1 h
   dsimp only at h1
   rw [pins]
   split
   ·rename_i hq
    exact List.pairwise_cons.2 ⟨fun y hy=>by dsimp only;rw [later_id hq];exact h1 y hy,h2⟩
   ·rename_i hq
    split
    ·rename_i hlt
     refine List.pairwise_cons.2 ⟨fun y hy=>?_,h⟩
     rcases List.mem_cons.1 hy with rfl|hy
     ·exact hlt
     ·have:=h1 y hy;dsimp only;omega
    ·rename_i hlt
     refine List.pairwise_cons.2 ⟨fun y hy=>?_,pins_rise p h2⟩
     dsimp only
     rcases pins_mem p l y hy with e|⟨z,hz,e⟩
     ·omega
     ·have:=h1 z hz;omega
theorem pins_may {p:Pr} (hp:pmay p=true):∀{l:List Pr},(∀q ∈ l,pmay q=true)→∀x ∈ pins p l,pmay x=true
 | [],_,x,h=>by simp [pins] at h;rw [h];exact hp
 | q::l,hl,x,h=>by
   have hq:=hl q qb
   rw [pins] at h
   split at h
   ·rcases List.mem_cons.1 h with rfl|h
    ·exact later_may hq hp
    ·exact hl x (by simp [h])
   ·split at h
    ·rcases List.mem_cons.1 h with rfl|h
     ·exact hp
     ·exact hl x h
    ·rcases List.mem_cons.1 h with rfl|h
     ·exact hq
     ·exact pins_may hp (fun q hq=>hl q (by simp [hq])) x h
theorem pins_len (p:Pr):∀l:List Pr,(pins p l).length≤l.length+1
 | []=>by simp [pins]
 | q::l=>by
   rw [pins]
   split
   ·simp
   ·split
    ·simp
    ·have:=pins_len p l
     simp only [List.length_cons];omega
theorem pfold_done (p:Pr):∀(l:List Pr) (Y:List Pr),(∀q ∈ l,q.id≠p.id)→l.foldl (pstep p) (Y,true)=(Y++l,true)
 | [],Y,_=>by simp
 | q::l,Y,h=>by
   rw [List.foldl_cons]
   have:pstep p (Y,true) q=(Y++[q],true):=by
    unfold pstep
    rw [if_neg (h q qb),if_neg qb]
   rw [this,pfold_done p l _ (fun q hq=>h q (by simp [hq]))]
   simp
theorem pput_aux (p:Pr):∀(l:List Pr) (Y:List Pr),VS l→(if (l.foldl (pstep p) (Y,false)).2 then (l.foldl (pstep p) (Y,false)).1 else (l.foldl (pstep p) (Y,false)).1++[p])=Y++pins p l
 | [],Y,_=>by simp [pins]
 | q::l,Y,h=>by
   obtain ⟨h1,h2⟩:=List.pairwise_cons.1 h
   rw [List.foldl_cons,pins]
   by_cases hq:q.id=p.id
   ·have:pstep p (Y,false) q=(Y++[later q p],true):=by unfold pstep;rw [if_pos hq]
    rw [this,pfold_done p l _ (fun x hx=>by have:=h1 x hx;dsimp only at this;omega),if_pos hq]
    simp
   ·by_cases hlt:p.id<q.id
    ·have:pstep p (Y,false) q=(Y++[p,q],true):=by unfold pstep;rw [if_neg hq,if_pos ⟨rfl,hlt⟩]
     rw [this,pfold_done p l _ (fun x hx=>by have:=h1 x hx;dsimp only at this;omega),if_neg hq,if_pos hlt]
     simp
    ·have:pstep p (Y,false) q=(Y++[q],false):=by unfold pstep;rw [if_neg hq,if_neg (fun h=>hlt h.2)]
     rw [this,pput_aux p l _ h2,if_neg hq,if_neg hlt]
     simp
theorem pput_ins {l:List Pr} (h:VS l) (p:Pr):pput l p=pins p l:=by
 unfold pput pfold
 rw [pput_aux p l [] h];rfl
def vof (a b:Option Pr):Option Pr:=match a,b with
 | some x,some y=>some (later x y)
 | some x,none=>some x
 | none,some y=>some y
 | none,none=>none
def vfold (a b:List Pr):List Pr:=b.foldl (fun o p=>pins p o) a
def vjoin (a b:List Pr):List Pr:=(vfold a b).take 64
theorem vget_above {l:List Pr} {k:Int} (h:∀p ∈ l,k<p.id):vget l k=none :=
 kget_none.2 fun t ht e=>by have:=h t ht;omega
theorem vfold_spec:∀(b a:List Pr),VS a→VS b→VS (vfold a b)∧∀k,vget (vfold a b) k=vof (vget a k) (vget b k)
 | [],a,ha,_=>⟨ha,fun k=>by
   show vget a k=vof (vget a k) none
   cases vget a k <;> rfl⟩
 | p::b,a,ha,hb=>by
   obtain ⟨q1,q2⟩:=List.pairwise_cons.1 hb
   obtain ⟨h1,h2⟩:=vfold_spec b (pins p a) (pins_rise p ha) q2
   refine ⟨h1,fun k=>?_⟩
   show vget (vfold (pins p a) b) k=_
   rw [h2,pins_get p a k ha,show vget (p::b) k=if p.id=k then some p else vget b k from kget_cons _ _ _]
   by_cases e:p.id=k
   ·subst e
    rw [if_pos rfl,if_pos rfl,vget_above q1]
    cases vget a p.id <;> rfl
   ·rw [if_neg e,if_neg e]
theorem vfold_len:∀(b a:List Pr),(vfold a b).length≤a.length+b.length
 | [],a=>by simp [vfold]
 | p::b,a=>by
   have h1:=vfold_len b (pins p a)
   have h2:=pins_len p a
   show (vfold (pins p a) b).length≤_
   simp only [List.length_cons];omega
theorem vfold_may:∀(b a:List Pr),(∀p ∈ a,pmay p=true)→(∀p ∈ b,pmay p=true)→∀p ∈ vfold a b,pmay p=true
 | [],_,ha,_=>ha
 | p::b,a,ha,hb=>vfold_may b (pins p a) (pins_may (hb p qb) ha) (fun q hq=>hb q (by simp [hq]))
theorem VV.join {a b:List Pr} (ha:VV a) (hb:VV b):VV (vjoin a b) :=
 ⟨by unfold vjoin;rw [List.length_take];omega,(vfold_spec b a ha.r hb.r).1.take 64,fun t ht=>vfold_may b a ha.may hb.may t (List.mem_of_mem_take ht)⟩
end
section
open Go.RowKit Go.Maps
abbrev Hold:=Dot × Int × Int
def h0:Hold:=((0,0),0,0)
def hmay (h:Hold):Bool:=dchk h.1 && decide (1≤h.2.1) && decide (h.2.1≤1099511627776) && decide (1≤h.2.2) && decide (h.2.2≤1125899906842624)
def hat (l:List Hold) (k:Nat):Bool:=hmay (l.getD k h0) && (decide (k=0) || dlt (l.getD (k-1) h0).1 (l.getD k h0).1)
def hchk (l:List Hold):Bool:=decide (l.length≤1000) && allB l.length (hat l)
structure HV (l:List Hold):Prop where
 n:l.length≤1000
 r:l.Pairwise fun x y=>DL x.1 y.1
 may:∀p ∈ l,hmay p=true
theorem hchk_iff {l:List Hold}:hchk l=true↔HV l:=by
 unfold hchk
 rw [Bool.and_eq_true,decide_eq_true_eq,allB_iff]
 constructor
 ·rintro ⟨h1,h2⟩
  have k2:∀k,k<l.length→hmay (l.getD k h0)=true∧(k=0∨DL (l.getD (k-1) h0).1 (l.getD k h0).1):=fun k hk=>by
   have:=h2 k hk
   unfold hat at this
   rw [Bool.and_eq_true,Bool.or_eq_true,decide_eq_true_eq,dlt_iff] at this
   exact this
  refine ⟨h1,pw_of_adj (fun x y:Hold=>DL x.1 y.1) (fun _ _ _=>DL.trans) h0 l (fun k hk=>(k2 k hk).2),fun t ht=>?_⟩
  obtain ⟨k,hk,rfl⟩:=get_mem (z:=h0) ht
  exact (k2 k hk).1
 ·intro h
  refine ⟨h.n,fun k hk=>?_⟩
  unfold hat
  rw [Bool.and_eq_true,Bool.or_eq_true,decide_eq_true_eq,dlt_iff]
  exact ⟨h.may _ (mem_of_get hk),adj_of_pw (fun x y:Hold=>DL x.1 y.1) h0 h.r hk⟩
theorem HV.nil:HV []:=⟨by simp,List.Pairwise.nil,by simp⟩
def rdHold (s:RS):Hold × RS:=(((rdDot s).1,(rdInt 1099511627776 (rdDot s).2).1,(rdInt 1125899906842624 (rdInt 1099511627776 (rdDot s).2).2).1),(rdInt 1125899906842624 (rdInt 1099511627776 (rdDot s).2).2).2)
def rdHolds (s:RS):List Hold × RS :=
 match rdItems rdHold (rdInt 1000 s).1.toNat [] (rdInt 1000 s).2 with
 | (_,none)=>([],none)
 | (l,some r)=>if hchk l then (l,some r) else ([],none)
def holdB (h:Hold):List UInt8:=dotB h.1++num h.2.1.toNat++num h.2.2.toNat
def holdsB (l:List Hold):List UInt8:=num l.length++l.flatMap holdB
theorem hmay_bd {p:Hold} (h:hmay p=true):dok p.1∧1≤p.2.1∧p.2.1≤1099511627776∧1≤p.2.2∧p.2.2≤1125899906842624:=by
 unfold hmay at h
 simp only [Bool.and_eq_true,decide_eq_true_eq] at h
 exact ⟨dchk_iff.1 h.1.1.1.1,h.1.1.1.2,h.1.1.2,h.1.2,h.2⟩
theorem rdHold_bytes {p:Hold} (h:hmay p=true) (r:List UInt8):rdHold (some (holdB p++r))=(p,some r):=by
 obtain ⟨h1,h2,h3,h4,h5⟩:=hmay_bd h
 unfold rdHold holdB
 rw [List.append_assoc,List.append_assoc,rdDot_bytes h1]
 dsimp only
 rw [rdInt_num _ p.2.1.toNat oe oe]
 dsimp only
 rw [rdInt_num _ p.2.2.toNat oe oe,Int.toNat_of_nonneg oe,Int.toNat_of_nonneg oe]
theorem rdHolds_bytes {l:List Hold} (h:HV l) (r:List UInt8):rdHolds (some (holdsB l++r))=(l,some r):=by
 have hn:=h.n
 unfold rdHolds holdsB
 rw [List.append_assoc,rdInt_num _ l.length oe oe]
 dsimp only
 rw [Int.toNat_natCast,rdItems_all rdHold holdB l [] r (fun t ht r=>rdHold_bytes (h.may t ht) r)]
 dsimp only
 rw [List.nil_append,if_pos (hchk_iff.2 h)]
theorem rdHolds_ok (s:RS):HV (rdHolds s).1:=by
 unfold rdHolds
 split
 ·exact HV.nil
 ·split
  ·rename_i h;exact hchk_iff.1 h
  ·exact HV.nil
end
section
open Go.RowKit Go.Maps
def hcells (h:Hold):List Value:=[.int .i64 h.1.1,.int .i64 h.1.2,.int .i64 h.2.1,.int .i64 h.2.2]
theorem henc:Enc hcells 4:=⟨fun _=>rfl,fun a u hu=>by simp [hcells] at hu;rcases hu with rfl|rfl|rfl|rfl <;> rfl⟩
abbrev Holds (w:World) (v:Value) (l:List Hold):Prop:=GRow hcells 4 w v l
theorem infoHold:(Tryz.prog.info? 94).map (fun i=>(i.zero,i.size,i.bytes))=some (some (.agg #[.int .i64 0,.int .i64 0,.int .i64 0,.int .i64 0]),4,32):=by kernel_rfl
theorem Holds.get {w:World} {a:Option Addr} {n cap:Nat} {l:List Hold} (h:Holds w (.slice a n cap) l) {k:Nat} (hk:k<l.length) :
 ∃b off,a=some ⟨b,off,none⟩∧b<w.heap.size∧w.cell? ⟨b,off+k*4,none⟩=some (.int .i64 (l.getD k h0).1.1)∧w.cell? ⟨b,off+k*4+1,none⟩=some (.int .i64 (l.getD k h0).1.2)∧w.cell? ⟨b,off+k*4+2,none⟩=some (.int .i64 (l.getD k h0).2.1)∧w.cell? ⟨b,off+k*4+3,none⟩=some (.int .i64 (l.getD k h0).2.2):=by
 obtain ⟨b,off,e,hb,hc⟩:=GRow.get h henc h0 hk
 exact ⟨b,off,e,hb,hc 0 oe,hc 1 oe,hc 2 oe,hc 3 oe⟩
theorem wpList_append_holds {ops:Array Oper} {rest:List Oper} {o:Oper} {a:Act} {Q:Exit→Act→World→Prop} {w:World} (hgd:o.guard=none) (s x:Operand)
 (ho:o.op=.call { callee:=.builtin .append,args:=#[s,x],argTypes:=#[51,51] }) (base:Nat) (v:Value) (xs:List Hold) (n:Nat) (hs:a.eval s=v)
 (hown:w.ownsRow base 94 4 v n (gvs hcells xs)) (u:Value) (k:List Hold) (m:Nat) (hx:a.eval x=u) (hu:Row w u m 4 (gvs hcells k)) (hlen:n+m≤1000000) (hbase:base≤w.heap.size)
 (h:∀v' w',w'.ownsRow base 94 4 v' (n+m) (gvs hcells (xs++k))→w.grownBy w' v.ownBlock→wpList Tryz.prog ops Q rest (a.put o.dst v') w'):wpList Tryz.prog ops Q (o::rest) a w:=by
 obtain ⟨i0,hi,hz0,hz1,hz2⟩:=ipt infoHold
 exact wlar hgd s x _ ho base 94 i0 _ 4 32 Tryz.underlying51 hi hz0 hz1 hz2 rfl qd qd v n (gvs hcells xs) hs hown u m (gvs hcells k) hx hu (gvs_cells henc k) hlen hbase (fun v' w' q1 q2=>h v' w' (by rw [gvs_append];exact q1) q2)
theorem holds_lit (w:World) (h:Hold):Row (w.alloc (.cells #[.int .i64 h.1.1,.int .i64 h.1.2,.int .i64 h.2.1,.int .i64 h.2.2] 94)) (.slice (some ⟨w.heap.size,0,none⟩) 1 1) 1 4 (gvs hcells [h]):=lit_g w 94 h 4 rfl rfl
end
section
set_option maxHeartbeats 4000000
set_option maxRecDepth 8000
open Go.RowKit Go.Maps Go.Shelf
theorem viewB_take (l:List Pr) (k:Nat) (h:k<l.length):(num l.length++(l.take (k+1)).flatMap peerB)=(num l.length++(l.take k).flatMap peerB)++peerB (l.getD k p0):=by
 rw [take_succ_g p0 l k h,List.flatMap_append];simp
theorem holdsB_take (l:List Hold) (k:Nat) (h:k<l.length):(num l.length++(l.take (k+1)).flatMap holdB)=(num l.length++(l.take k).flatMap holdB)++holdB (l.getD k h0):=by
 rw [take_succ_g h0 l k h,List.flatMap_append];simp
theorem peerB_len {p:Pr} (h:pmay p=true):(peerB p).length≤40:=by
 have hn:=pmay_bd h
 have h1:=num_len p.id.toNat oe
 have h2:=num_len p.inc.toNat oe
 have h3:=num_len p.st.toNat oe
 unfold peerB
 simp only [List.length_append]
 omega
theorem holdB_len {p:Hold} (h:hmay p=true):(holdB p).length≤60:=by
 have hn:=hmay_bd h
 unfold dok at hn
 have h1:=dotB_len p.1 (by unfold Small;omega)
 have h2:=num_len p.2.1.toNat oe
 have h3:=num_len p.2.2.toNat oe
 unfold holdB
 simp only [List.length_append]
 omega
theorem flatP_len (l:List Pr) (h:∀d ∈ l,pmay d=true):(l.flatMap peerB).length≤40*l.length:=by
 induction l with
 | nil=>simp
 | cons a l ih =>
   have:=peerB_len (h a qb)
   have:=ih (fun d hd=>h d (by simp [hd]))
   simp only [List.flatMap_cons,List.length_append,List.length_cons];omega
theorem flatH_len (l:List Hold) (h:∀d ∈ l,hmay d=true):(l.flatMap holdB).length≤60*l.length:=by
 induction l with
 | nil=>simp
 | cons a l ih =>
   have:=holdB_len (h a qb)
   have:=ih (fun d hd=>h d (by simp [hd]))
   simp only [List.flatMap_cons,List.length_append,List.length_cons];omega
theorem vbytes_any (v:Value) (l:List Pr) (w:World) (hr:Peers w v l) (hs:∀d ∈ l,pmay d=true) (hl:l.length≤100000) :
 Calls Tryz.prog 66 #[v] w fun r w'=>r=.returned (.string (bs (viewB l)))∧Pure w w':=by
 obtain ⟨a,cap,rfl⟩:=hr.shape
 have Hr:=hid hr
 have Hs:=hid hs
 have hi:=hid (mint_any l.length w oe oe)
 unfold viewB
 clear hr hs
 go_enter Tryz.func66,Tryz.ntmps66
 go_wp2_with (go_at_call 60;refine hi.out.mono ?_;rintro e w1 ⟨rfl,hp1⟩;have Hp1:=hid hp1;clear hp1)
 go_loopw [3,5,11] (fun s _ i wr=>∃k:Nat,k≤l.length∧i=.int .i64 k∧s=.string (bs (num l.length++(l.take k).flatMap peerB))∧Pure w wr) (fun _ _ i _=>l.length-(RowKit.intOf i).toNat)
 case atStart=>exact ⟨0,Nat.zero_le _,rfl,by simp,Hp1.out⟩
 case round =>
  obtain ⟨k,hk,rfl,rfl,hp⟩:=hrel
  by_cases hlt:k<l.length
  ·obtain ⟨b,off,rfl,hb,c0,c1,c2⟩:=Peers.get (show Peers wr (.slice a l.length cap) l from Row.pure Hr.out hp) hlt
   have hlt' : (k:Int)<(l.length:Int):=by omega
   have hkk:(0:Int)≤(k:Int):=by omega
   have Hstep:=hid (viewB_take l k hlt)
   have hsm:=Hs.out _ (mem_get_p hlt)
   have hb1:=peerB_len hsm
   have hb2:((l.take k).flatMap peerB).length≤10000000:=Nat.le_trans (flatP_len (l.take k) (fun d hd=>Hs.out d (List.mem_of_mem_take hd))) (by rw [List.length_take];omega)
   have hb3:=num_len l.length oe
   have hn:=pmay_bd hsm
   have hx:=hid (fun W=>mint_any (l.getD k p0).id W oe oe)
   have hy:=hid (fun W=>mint_any (l.getD k p0).inc W oe oe)
   have hz:=hid (fun W=>mint_any (l.getD k p0).st W oe oe)
   have Hp:=hid hp
   clear hp hsm hn
   generalize l.getD k p0=z at *
   obtain ⟨zi,zn,zs⟩:=z
   dsimp only at c0 c1 c2 hx hy hz
   have hb1:(num zi.toNat++num zn.toNat++num zs.toNat).length≤40:=hb1
   have Hstep:=qh (num l.length++(l.take (k+1)).flatMap peerB=(num l.length++(l.take k).flatMap peerB)++(num zi.toNat++num zn.toNat++num zs.toNat)) (Hstep.out)
   simp only [List.length_append] at hb1
   have hns:¬9223372036854775807<(bs (num zi.toNat)).size+(bs (num zn.toNat)).size:=by (repeat rw [bs_size]);(try rw [List.length_append]);omega
   have hns2:¬9223372036854775807<(bs (num zi.toNat)).size+(bs (num zn.toNat)).size+(bs (num zs.toNat)).size:=by (repeat rw [bs_size]);(try rw [List.length_append]);omega
   have hns3:¬9223372036854775807<(bs (num l.length++(l.take k).flatMap peerB)).size+((bs (num zi.toNat)).size+(bs (num zn.toNat)).size+(bs (num zs.toNat)).size):=by (repeat rw [bs_size]);(try rw [List.length_append]);omega
   have happ:=qh (bs (num l.length++(l.take k).flatMap peerB)++(bs (num zi.toNat)++bs (num zn.toNat)++bs (num zs.toNat))=bs ((num l.length++(l.take k).flatMap peerB)++(num zi.toNat++num zn.toNat++num zs.toNat))) (by rw [bs_append,bs_append,bs_append])
   clear hb1 hb2 hb3
   have hst:=qh ((wr.alloc (.cells #[.int .i64 zi,.int .i64 zn,.int .i64 zs] 92)).drew.cell? ⟨wr.heap.size,0,none⟩=some (.int .i64 zi)∧(wr.alloc (.cells #[.int .i64 zi,.int .i64 zn,.int .i64 zs] 92)).drew.cell? ⟨wr.heap.size,1,none⟩=some (.int .i64 zn)∧(wr.alloc (.cells #[.int .i64 zi,.int .i64 zn,.int .i64 zs] 92)).drew.cell? ⟨wr.heap.size,2,none⟩=some (.int .i64 zs)∧Pure wr (wr.alloc (.cells #[.int .i64 zi,.int .i64 zn,.int .i64 zs] 92)).drew) (⟨by simp,by simp,by simp,qp.drew⟩)
   have hkeep:Hid (∀W W' : World,Pure W W'→(W.cell? ⟨wr.heap.size,0,none⟩=some (.int .i64 zi)∧W.cell? ⟨wr.heap.size,1,none⟩=some (.int .i64 zn)∧W.cell? ⟨wr.heap.size,2,none⟩=some (.int .i64 zs)∧Pure wr W)→(W'.cell? ⟨wr.heap.size,0,none⟩=some (.int .i64 zi)∧W'.cell? ⟨wr.heap.size,1,none⟩=some (.int .i64 zn)∧W'.cell? ⟨wr.heap.size,2,none⟩=some (.int .i64 zs)∧Pure wr W')):=fun W W' hp ⟨a,b,c,d⟩ =>
    ⟨(hp.cell (World.block_lt_of_cell? W _ a)).trans a,(hp.cell (World.block_lt_of_cell? W _ b)).trans b,(hp.cell (World.block_lt_of_cell? W _ c)).trans c,d.then_ hp⟩
   generalize bs (num zi.toNat)=X at *
   generalize bs (num zn.toNat)=Y at *
   generalize bs (num zs.toNat)=Z at *
   generalize hS:bs (num l.length++(l.take k).flatMap peerB)=S at *
   clear hS
   go_wp2_with fail
   go_region_held3 (fun W=>W.cell? ⟨wr.heap.size,0,none⟩=some (.int .i64 zi)∧W.cell? ⟨wr.heap.size,1,none⟩=some (.int .i64 zn)∧W.cell? ⟨wr.heap.size,2,none⟩=some (.int .i64 zs)∧Pure wr W)
    (first|exact hst.out|exact hkeep.out _ _ qa qa)
    (first
      | (go_at_call 60;(with_reducible refine (hx.out _).mono ?_);rintro e w2 ⟨rfl,hp2⟩)
      | (go_at_call 60;(with_reducible refine (hy.out _).mono ?_);rintro e w2 ⟨rfl,hp2⟩)
      | (go_at_call 60;(with_reducible refine (hz.out _).mono ?_);rintro e w2 ⟨rfl,hp2⟩))
   all_goals
    have hx':=qh (w2.cell? ⟨wr.heap.size,0,none⟩=some (.int .i64 zi)∧w2.cell? ⟨wr.heap.size,1,none⟩=some (.int .i64 zn)∧w2.cell? ⟨wr.heap.size,2,none⟩=some (.int .i64 zs)∧Pure wr w2) (by assumption)
    clear hst hkeep hx hy hz
    go_wp2
    go_roundw
    (case rel=>exact ⟨k+1,by omega,by go_num,by rw [Hstep.out,←happ.out],Hp.out.then_ hx'.out.2.2.2⟩)
    (case measure=>simp [RowKit.intOf];omega)
  ·have hlt' : ¬(k:Int)<(l.length:Int):=by omega
   have e:l.take k=l:=List.take_of_length_le oe
   rw [e]
   have Hp:=hid hp
   clear hp e
   go_wp2
   go_ret
   exact ⟨rfl,Hp.out⟩
theorem hbytes_any (v:Value) (l:List Hold) (w:World) (hr:Holds w v l) (hs:∀d ∈ l,hmay d=true) (hl:l.length≤100000) :
 Calls Tryz.prog 68 #[v] w fun r w'=>r=.returned (.string (bs (holdsB l)))∧Pure w w':=by
 obtain ⟨a,cap,rfl⟩:=hr.shape
 have Hr:=hid hr
 have Hs:=hid hs
 have hi:=hid (mint_any l.length w oe oe)
 unfold holdsB
 clear hr hs
 go_enter Tryz.func68,Tryz.ntmps68
 go_wp2_with (go_at_call 60;refine hi.out.mono ?_;rintro e w1 ⟨rfl,hp1⟩;have Hp1:=hid hp1;clear hp1)
 go_loopw [3,5,11] (fun s _ i wr=>∃k:Nat,k≤l.length∧i=.int .i64 k∧s=.string (bs (num l.length++(l.take k).flatMap holdB))∧Pure w wr) (fun _ _ i _=>l.length-(RowKit.intOf i).toNat)
 case atStart=>exact ⟨0,Nat.zero_le _,rfl,by simp,Hp1.out⟩
 case round =>
  obtain ⟨k,hk,rfl,rfl,hp⟩:=hrel
  by_cases hlt:k<l.length
  ·obtain ⟨b,off,rfl,hb,c0,c1,c2,c3⟩:=Holds.get (show Holds wr (.slice a l.length cap) l from Row.pure Hr.out hp) hlt
   have hlt' : (k:Int)<(l.length:Int):=by omega
   have hkk:(0:Int)≤(k:Int):=by omega
   have Hstep:=hid (holdsB_take l k hlt)
   have hsm:=Hs.out _ (mem_get_g (z:=h0) hlt)
   have hb1:=holdB_len hsm
   have hb2:((l.take k).flatMap holdB).length≤10000000:=Nat.le_trans (flatH_len (l.take k) (fun d hd=>Hs.out d (List.mem_of_mem_take hd))) (by rw [List.length_take];omega)
   have hb3:=num_len l.length oe
   have hn:=hmay_bd hsm
   unfold dok at hn
   have hx:=hid (fun W=>mdbytes_any (l.getD k h0).1 W (by unfold Small;omega))
   have hy:=hid (fun W=>mint_any (l.getD k h0).2.1 W oe oe)
   have hz:=hid (fun W=>mint_any (l.getD k h0).2.2 W oe oe)
   have Hp:=hid hp
   clear hp hsm hn
   generalize l.getD k h0=z at *
   obtain ⟨⟨z1,z2⟩,zr,zu⟩:=z
   dsimp only at c0 c1 c2 c3 hx hy hz
   have hb1:(dotB (z1,z2)++num zr.toNat++num zu.toNat).length≤60:=hb1
   have Hstep:=qh (num l.length++(l.take (k+1)).flatMap holdB=(num l.length++(l.take k).flatMap holdB)++(dotB (z1,z2)++num zr.toNat++num zu.toNat)) (Hstep.out)
   simp only [List.length_append] at hb1
   have hns:¬9223372036854775807<(bs (dotB (z1,z2))).size+(bs (num zr.toNat)).size:=by (repeat rw [bs_size]);(try rw [List.length_append]);omega
   have hns2:¬9223372036854775807<(bs (dotB (z1,z2))).size+(bs (num zr.toNat)).size+(bs (num zu.toNat)).size:=by (repeat rw [bs_size]);(try rw [List.length_append]);omega
   have hns3:¬9223372036854775807<(bs (num l.length++(l.take k).flatMap holdB)).size+((bs (dotB (z1,z2))).size+(bs (num zr.toNat)).size+(bs (num zu.toNat)).size):=by (repeat rw [bs_size]);(try rw [List.length_append]);omega
   have happ:=qh (bs (num l.length++(l.take k).flatMap holdB)++(bs (dotB (z1,z2))++bs (num zr.toNat)++bs (num zu.toNat))=bs ((num l.length++(l.take k).flatMap holdB)++(dotB (z1,z2)++num zr.toNat++num zu.toNat))) (by rw [bs_append,bs_append,bs_append])
   clear hb1 hb2 hb3
   have hst:=qh ((wr.alloc (.cells #[.int .i64 z1,.int .i64 z2,.int .i64 zr,.int .i64 zu] 94)).drew.cell? ⟨wr.heap.size,0,none⟩=some (.int .i64 z1)∧(wr.alloc (.cells #[.int .i64 z1,.int .i64 z2,.int .i64 zr,.int .i64 zu] 94)).drew.cell? ⟨wr.heap.size,1,none⟩=some (.int .i64 z2)∧(wr.alloc (.cells #[.int .i64 z1,.int .i64 z2,.int .i64 zr,.int .i64 zu] 94)).drew.cell? ⟨wr.heap.size,2,none⟩=some (.int .i64 zr)∧(wr.alloc (.cells #[.int .i64 z1,.int .i64 z2,.int .i64 zr,.int .i64 zu] 94)).drew.cell? ⟨wr.heap.size,3,none⟩=some (.int .i64 zu)∧Pure wr (wr.alloc (.cells #[.int .i64 z1,.int .i64 z2,.int .i64 zr,.int .i64 zu] 94)).drew) (⟨by simp,by simp,by simp,by simp,qp.drew⟩)
   have hkeep:Hid (∀W W' : World,Pure W W'→(W.cell? ⟨wr.heap.size,0,none⟩=some (.int .i64 z1)∧W.cell? ⟨wr.heap.size,1,none⟩=some (.int .i64 z2)∧W.cell? ⟨wr.heap.size,2,none⟩=some (.int .i64 zr)∧W.cell? ⟨wr.heap.size,3,none⟩=some (.int .i64 zu)∧Pure wr W)→(W'.cell? ⟨wr.heap.size,0,none⟩=some (.int .i64 z1)∧W'.cell? ⟨wr.heap.size,1,none⟩=some (.int .i64 z2)∧W'.cell? ⟨wr.heap.size,2,none⟩=some (.int .i64 zr)∧W'.cell? ⟨wr.heap.size,3,none⟩=some (.int .i64 zu)∧Pure wr W')):=fun W W' hp ⟨a,b,c,d,e⟩ =>
    ⟨(hp.cell (World.block_lt_of_cell? W _ a)).trans a,(hp.cell (World.block_lt_of_cell? W _ b)).trans b,(hp.cell (World.block_lt_of_cell? W _ c)).trans c,(hp.cell (World.block_lt_of_cell? W _ d)).trans d,e.then_ hp⟩
   unfold dv at hx
   generalize bs (dotB (z1,z2))=X at *
   generalize bs (num zr.toNat)=Y at *
   generalize bs (num zu.toNat)=Z at *
   generalize hS:bs (num l.length++(l.take k).flatMap holdB)=S at *
   clear hS
   go_wp2_with fail
   go_region_held3 (fun W=>W.cell? ⟨wr.heap.size,0,none⟩=some (.int .i64 z1)∧W.cell? ⟨wr.heap.size,1,none⟩=some (.int .i64 z2)∧W.cell? ⟨wr.heap.size,2,none⟩=some (.int .i64 zr)∧W.cell? ⟨wr.heap.size,3,none⟩=some (.int .i64 zu)∧Pure wr W)
    (first|exact hst.out|exact hkeep.out _ _ qa qa)
    (first
      | (go_at_call 127;(with_reducible refine (hx.out _).mono ?_);rintro e w2 ⟨rfl,hp2⟩)
      | (go_at_call 60;(with_reducible refine (hy.out _).mono ?_);rintro e w2 ⟨rfl,hp2⟩)
      | (go_at_call 60;(with_reducible refine (hz.out _).mono ?_);rintro e w2 ⟨rfl,hp2⟩))
   all_goals
    have hx':=qh (w2.cell? ⟨wr.heap.size,0,none⟩=some (.int .i64 z1)∧w2.cell? ⟨wr.heap.size,1,none⟩=some (.int .i64 z2)∧w2.cell? ⟨wr.heap.size,2,none⟩=some (.int .i64 zr)∧w2.cell? ⟨wr.heap.size,3,none⟩=some (.int .i64 zu)∧Pure wr w2) (by assumption)
    clear hst hkeep hx hy hz
    go_wp2
    go_roundw
    (case rel=>exact ⟨k+1,by omega,by go_num,by rw [Hstep.out,←happ.out],Hp.out.then_ hx'.out.2.2.2.2⟩)
    (case measure=>simp [RowKit.intOf];omega)
  ·have hlt' : ¬(k:Int)<(l.length:Int):=by omega
   have e:l.take k=l:=List.take_of_length_le oe
   rw [e]
   have Hp:=hid hp
   clear hp e
   go_wp2
   go_ret
   exact ⟨rfl,Hp.out⟩
theorem rvbytes_any (v:Value) (l:List Pr) (w:World) (hr:Peers w v l) (hs:∀d ∈ l,pmay d=true) (hl:l.length≤100000) :
 Calls Tryz.prog 67 #[v] w fun r w'=>r=.returned (.string (bs (viewB l)))∧Pure w w':=by
 obtain ⟨a,cap,rfl⟩:=hr.shape
 have Hr:=hid hr
 have Hs:=hid hs
 have hi:=hid (rint_any l.length w oe oe)
 unfold viewB
 clear hr hs
 go_enter Tryz.func67,Tryz.ntmps67
 go_wp2_with (go_at_call 61;refine hi.out.mono ?_;rintro e w1 ⟨rfl,hp1⟩;have Hp1:=hid hp1;clear hp1)
 go_loopw [3,4] (fun s i wr=>∃k:Nat,k≤l.length∧i=.int .i64 k∧s=.string (bs (num l.length++(l.take k).flatMap peerB))∧Pure w wr) (fun _ i _=>l.length-(RowKit.intOf i).toNat)
 case atStart=>exact ⟨0,Nat.zero_le _,rfl,by simp,Hp1.out⟩
 case round =>
  obtain ⟨k,hk,rfl,rfl,hp⟩:=hrel
  by_cases hlt:k<l.length
  ·obtain ⟨b,off,rfl,hb,c0,c1,c2⟩:=Peers.get (show Peers wr (.slice a l.length cap) l from Row.pure Hr.out hp) hlt
   have hlt' : (k:Int)<(l.length:Int):=by omega
   have hkk:(0:Int)≤(k:Int):=by omega
   have Hstep:=hid (viewB_take l k hlt)
   have hsm:=Hs.out _ (mem_get_p hlt)
   have hb1:=peerB_len hsm
   have hb2:((l.take k).flatMap peerB).length≤10000000:=Nat.le_trans (flatP_len (l.take k) (fun d hd=>Hs.out d (List.mem_of_mem_take hd))) (by rw [List.length_take];omega)
   have hb3:=num_len l.length oe
   have hn:=pmay_bd hsm
   have hx:=hid (fun W=>rint_any (l.getD k p0).id W oe oe)
   have hy:=hid (fun W=>rint_any (l.getD k p0).inc W oe oe)
   have hz:=hid (fun W=>rint_any (l.getD k p0).st W oe oe)
   have Hp:=hid hp
   clear hp hsm hn
   generalize l.getD k p0=z at *
   obtain ⟨zi,zn,zs⟩:=z
   dsimp only at c0 c1 c2 hx hy hz
   have hb1:(num zi.toNat++num zn.toNat++num zs.toNat).length≤40:=hb1
   have Hstep:=qh (num l.length++(l.take (k+1)).flatMap peerB=(num l.length++(l.take k).flatMap peerB)++(num zi.toNat++num zn.toNat++num zs.toNat)) (Hstep.out)
   simp only [List.length_append] at hb1
   have hns:¬9223372036854775807<(bs (num l.length++(l.take k).flatMap peerB)).size+(bs (num zi.toNat)).size:=by (repeat rw [bs_size]);(try rw [List.length_append]);omega
   have hns2:¬9223372036854775807<(bs (num l.length++(l.take k).flatMap peerB)).size+(bs (num zi.toNat)).size+(bs (num zn.toNat)).size:=by (repeat rw [bs_size]);(try rw [List.length_append]);omega
   have hns3:¬9223372036854775807<(bs (num l.length++(l.take k).flatMap peerB)).size+(bs (num zi.toNat)).size+(bs (num zn.toNat)).size+(bs (num zs.toNat)).size:=by (repeat rw [bs_size]);(try rw [List.length_append]);omega
   have happ:=qh (bs (num l.length++(l.take k).flatMap peerB)++bs (num zi.toNat)++bs (num zn.toNat)++bs (num zs.toNat)=bs ((num l.length++(l.take k).flatMap peerB)++(num zi.toNat++num zn.toNat++num zs.toNat))) (by simp only [bs_append,List.append_assoc])
   clear hb1 hb2 hb3
   have hst:=qh (wr.drew.cell? ⟨b,off+k*3,none⟩=some (.int .i64 zi)∧wr.drew.cell? ⟨b,off+k*3+1,none⟩=some (.int .i64 zn)∧wr.drew.cell? ⟨b,off+k*3+2,none⟩=some (.int .i64 zs)∧Pure wr wr.drew) (⟨c0,c1,c2,qv⟩)
   have hkeep:Hid (∀W W' : World,Pure W W'→(W.cell? ⟨b,off+k*3,none⟩=some (.int .i64 zi)∧W.cell? ⟨b,off+k*3+1,none⟩=some (.int .i64 zn)∧W.cell? ⟨b,off+k*3+2,none⟩=some (.int .i64 zs)∧Pure wr W)→(W'.cell? ⟨b,off+k*3,none⟩=some (.int .i64 zi)∧W'.cell? ⟨b,off+k*3+1,none⟩=some (.int .i64 zn)∧W'.cell? ⟨b,off+k*3+2,none⟩=some (.int .i64 zs)∧Pure wr W')):=fun W W' hp ⟨a,b,c,d⟩ =>
    ⟨(hp.cell (World.block_lt_of_cell? W _ a)).trans a,(hp.cell (World.block_lt_of_cell? W _ b)).trans b,(hp.cell (World.block_lt_of_cell? W _ c)).trans c,d.then_ hp⟩
   generalize bs (num zi.toNat)=X at *
   generalize bs (num zn.toNat)=Y at *
   generalize bs (num zs.toNat)=Z at *
   generalize hS:bs (num l.length++(l.take k).flatMap peerB)=S at *
   clear hS
   go_wp2_with fail
   go_region_held3 (fun W=>W.cell? ⟨b,off+k*3,none⟩=some (.int .i64 zi)∧W.cell? ⟨b,off+k*3+1,none⟩=some (.int .i64 zn)∧W.cell? ⟨b,off+k*3+2,none⟩=some (.int .i64 zs)∧Pure wr W)
    (first|exact hst.out|exact hkeep.out _ _ qa qa)
    (first
      | (go_at_call 61;(with_reducible refine (hx.out _).mono ?_);rintro e w2 ⟨rfl,hp2⟩)
      | (go_at_call 61;(with_reducible refine (hy.out _).mono ?_);rintro e w2 ⟨rfl,hp2⟩)
      | (go_at_call 61;(with_reducible refine (hz.out _).mono ?_);rintro e w2 ⟨rfl,hp2⟩))
   all_goals
    have hx':=qh (w2.cell? ⟨b,off+k*3,none⟩=some (.int .i64 zi)∧w2.cell? ⟨b,off+k*3+1,none⟩=some (.int .i64 zn)∧w2.cell? ⟨b,off+k*3+2,none⟩=some (.int .i64 zs)∧Pure wr w2) (by assumption)
    clear hst hkeep hx hy hz
    go_wp2
    go_roundw
    (case rel=>exact ⟨k+1,by omega,by go_num,by rw [Hstep.out,←happ.out],Hp.out.then_ hx'.out.2.2.2⟩)
    (case measure=>simp [RowKit.intOf];omega)
  ·have hlt' : ¬(k:Int)<(l.length:Int):=by omega
   have e:l.take k=l:=List.take_of_length_le oe
   rw [e]
   have Hp:=hid hp
   clear hp e
   go_wp2
   go_ret
   exact ⟨rfl,Hp.out⟩
theorem rhbytes_any (v:Value) (l:List Hold) (w:World) (hr:Holds w v l) (hs:∀d ∈ l,hmay d=true) (hl:l.length≤100000) :
 Calls Tryz.prog 69 #[v] w fun r w'=>r=.returned (.string (bs (holdsB l)))∧Pure w w':=by
 obtain ⟨a,cap,rfl⟩:=hr.shape
 have Hr:=hid hr
 have Hs:=hid hs
 have hi:=hid (rint_any l.length w oe oe)
 unfold holdsB
 clear hr hs
 go_enter Tryz.func69,Tryz.ntmps69
 go_wp2_with (go_at_call 61;refine hi.out.mono ?_;rintro e w1 ⟨rfl,hp1⟩;have Hp1:=hid hp1;clear hp1)
 go_loopw [3,4] (fun s i wr=>∃k:Nat,k≤l.length∧i=.int .i64 k∧s=.string (bs (num l.length++(l.take k).flatMap holdB))∧Pure w wr) (fun _ i _=>l.length-(RowKit.intOf i).toNat)
 case atStart=>exact ⟨0,Nat.zero_le _,rfl,by simp,Hp1.out⟩
 case round =>
  obtain ⟨k,hk,rfl,rfl,hp⟩:=hrel
  by_cases hlt:k<l.length
  ·obtain ⟨b,off,rfl,hb,c0,c1,c2,c3⟩:=Holds.get (show Holds wr (.slice a l.length cap) l from Row.pure Hr.out hp) hlt
   have hlt' : (k:Int)<(l.length:Int):=by omega
   have hkk:(0:Int)≤(k:Int):=by omega
   have Hstep:=hid (holdsB_take l k hlt)
   have hsm:=Hs.out _ (mem_get_g (z:=h0) hlt)
   have hb1:=holdB_len hsm
   have hb2:((l.take k).flatMap holdB).length≤10000000:=Nat.le_trans (flatH_len (l.take k) (fun d hd=>Hs.out d (List.mem_of_mem_take hd))) (by rw [List.length_take];omega)
   have hb3:=num_len l.length oe
   have hn:=hmay_bd hsm
   unfold dok at hn
   have hx:=hid (fun W=>rdbytes_any (l.getD k h0).1 W (by unfold Small;omega))
   have hy:=hid (fun W=>rint_any (l.getD k h0).2.1 W oe oe)
   have hz:=hid (fun W=>rint_any (l.getD k h0).2.2 W oe oe)
   have Hp:=hid hp
   clear hp hsm hn
   generalize l.getD k h0=z at *
   obtain ⟨⟨z1,z2⟩,zr,zu⟩:=z
   dsimp only at c0 c1 c2 c3 hx hy hz
   have hb1:(dotB (z1,z2)++num zr.toNat++num zu.toNat).length≤60:=hb1
   have Hstep:=qh (num l.length++(l.take (k+1)).flatMap holdB=(num l.length++(l.take k).flatMap holdB)++(dotB (z1,z2)++num zr.toNat++num zu.toNat)) (Hstep.out)
   simp only [List.length_append] at hb1
   have hns:¬9223372036854775807<(bs (num l.length++(l.take k).flatMap holdB)).size+(bs (dotB (z1,z2))).size:=by (repeat rw [bs_size]);(try rw [List.length_append]);omega
   have hns2:¬9223372036854775807<(bs (num l.length++(l.take k).flatMap holdB)).size+(bs (dotB (z1,z2))).size+(bs (num zr.toNat)).size:=by (repeat rw [bs_size]);(try rw [List.length_append]);omega
   have hns3:¬9223372036854775807<(bs (num l.length++(l.take k).flatMap holdB)).size+(bs (dotB (z1,z2))).size+(bs (num zr.toNat)).size+(bs (num zu.toNat)).size:=by (repeat rw [bs_size]);(try rw [List.length_append]);omega
   have happ:=qh (bs (num l.length++(l.take k).flatMap holdB)++bs (dotB (z1,z2))++bs (num zr.toNat)++bs (num zu.toNat)=bs ((num l.length++(l.take k).flatMap holdB)++(dotB (z1,z2)++num zr.toNat++num zu.toNat))) (by simp only [bs_append,List.append_assoc])
   clear hb1 hb2 hb3
   have hst:=qh (wr.drew.cell? ⟨b,off+k*4,none⟩=some (.int .i64 z1)∧wr.drew.cell? ⟨b,off+k*4+1,none⟩=some (.int .i64 z2)∧wr.drew.cell? ⟨b,off+k*4+2,none⟩=some (.int .i64 zr)∧wr.drew.cell? ⟨b,off+k*4+3,none⟩=some (.int .i64 zu)∧Pure wr wr.drew) (⟨c0,c1,c2,c3,qv⟩)
   have hkeep:Hid (∀W W' : World,Pure W W'→(W.cell? ⟨b,off+k*4,none⟩=some (.int .i64 z1)∧W.cell? ⟨b,off+k*4+1,none⟩=some (.int .i64 z2)∧W.cell? ⟨b,off+k*4+2,none⟩=some (.int .i64 zr)∧W.cell? ⟨b,off+k*4+3,none⟩=some (.int .i64 zu)∧Pure wr W)→(W'.cell? ⟨b,off+k*4,none⟩=some (.int .i64 z1)∧W'.cell? ⟨b,off+k*4+1,none⟩=some (.int .i64 z2)∧W'.cell? ⟨b,off+k*4+2,none⟩=some (.int .i64 zr)∧W'.cell? ⟨b,off+k*4+3,none⟩=some (.int .i64 zu)∧Pure wr W')):=fun W W' hp ⟨a,b,c,d,e⟩ =>
    ⟨(hp.cell (World.block_lt_of_cell? W _ a)).trans a,(hp.cell (World.block_lt_of_cell? W _ b)).trans b,(hp.cell (World.block_lt_of_cell? W _ c)).trans c,(hp.cell (World.block_lt_of_cell? W _ d)).trans d,e.then_ hp⟩
   unfold dv at hx
   generalize bs (dotB (z1,z2))=X at *
   generalize bs (num zr.toNat)=Y at *
   generalize bs (num zu.toNat)=Z at *
   generalize hS:bs (num l.length++(l.take k).flatMap holdB)=S at *
   clear hS
   go_wp2_with fail
   go_region_held3 (fun W=>W.cell? ⟨b,off+k*4,none⟩=some (.int .i64 z1)∧W.cell? ⟨b,off+k*4+1,none⟩=some (.int .i64 z2)∧W.cell? ⟨b,off+k*4+2,none⟩=some (.int .i64 zr)∧W.cell? ⟨b,off+k*4+3,none⟩=some (.int .i64 zu)∧Pure wr W)
    (first|exact hst.out|exact hkeep.out _ _ qa qa)
    (first
      | (go_at_call 131;(with_reducible refine (hx.out _).mono ?_);rintro e w2 ⟨rfl,hp2⟩)
      | (go_at_call 61;(with_reducible refine (hy.out _).mono ?_);rintro e w2 ⟨rfl,hp2⟩)
      | (go_at_call 61;(with_reducible refine (hz.out _).mono ?_);rintro e w2 ⟨rfl,hp2⟩))
   all_goals
    have hx':=qh (w2.cell? ⟨b,off+k*4,none⟩=some (.int .i64 z1)∧w2.cell? ⟨b,off+k*4+1,none⟩=some (.int .i64 z2)∧w2.cell? ⟨b,off+k*4+2,none⟩=some (.int .i64 zr)∧w2.cell? ⟨b,off+k*4+3,none⟩=some (.int .i64 zu)∧Pure wr w2) (by assumption)
    clear hst hkeep hx hy hz
    go_wp2
    go_roundw
    (case rel=>exact ⟨k+1,by omega,by go_num,by rw [Hstep.out,←happ.out],Hp.out.then_ hx'.out.2.2.2.2⟩)
    (case measure=>simp [RowKit.intOf];omega)
  ·have hlt' : ¬(k:Int)<(l.length:Int):=by omega
   have e:l.take k=l:=List.take_of_length_le oe
   rw [e]
   have Hp:=hid hp
   clear hp e
   go_wp2
   go_ret
   exact ⟨rfl,Hp.out⟩
end
end Go.Proofs.YtdlpnhfgjficgaaGreat
