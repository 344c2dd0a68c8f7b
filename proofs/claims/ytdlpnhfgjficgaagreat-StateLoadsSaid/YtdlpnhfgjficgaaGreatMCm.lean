import Derived.Test.YtdlpnhfgjficgaaGreatMX7
namespace Go.Proofs.YtdlpnhfgjficgaaGreat
section
open Go.RowKit Go.Maps
def dok (d:Dot):Prop:=1≤d.1∧d.1≤1099511627776∧1≤d.2∧d.2≤1099511627776
theorem dchk_iff {d:Dot}:dchk d=true↔dok d:=by unfold dchk dok;simp [and_assoc]
def DL (a b:Dot):Prop:=a.1<b.1∨(a.1=b.1∧a.2<b.2)
theorem dlt_iff {a b:Dot}:dlt a b=true↔DL a b:=by unfold dlt DL;simp
theorem dlt_false {a b:Dot}:dlt a b=false↔¬DL a b:=by rw [←dlt_iff];simp
theorem DL.trans {a b c:Dot} (h:DL a b) (k:DL b c):DL a c:=by unfold DL at *;omega
theorem DL.irrefl (a:Dot):¬DL a a:=by unfold DL;omega
theorem DL.tri (a b:Dot):DL a b∨a=b∨DL b a:=by
 obtain ⟨a1,a2⟩:=a
 obtain ⟨b1,b2⟩:=b
 unfold DL
 dsimp only
 by_cases h1:a1=b1
 ·by_cases h2:a2=b2
  ·right;left;rw [h1,h2]
  ·omega
 ·omega
def Rise (l:List Dot):Prop:=l.Pairwise DL
theorem rise_eq:∀{l k:List Dot},Rise l→Rise k→(∀d,d ∈ l↔d ∈ k)→l=k
 | [],[],_,_,_=>rfl
 | [],b::k,_,_,h=>absurd ((h b).2 qb) qb
 | a::l,[],_,_,h=>absurd ((h a).1 qb) qb
 | a::l,b::k,h1,h2,h=>by
   obtain ⟨p1,p2⟩:=List.pairwise_cons.1 h1
   obtain ⟨q1,q2⟩:=List.pairwise_cons.1 h2
   have hab:a=b:=by
    rcases List.mem_cons.1 ((h a).1 qb) with e|e
    ·exact e
    ·rcases List.mem_cons.1 ((h b).2 qb) with e'|e'
     ·exact e'.symm
     ·exact absurd ((q1 a e).trans (p1 b e')) (DL.irrefl b)
   subst hab
   congr 1
   refine rise_eq p2 q2 (fun d=>⟨fun hd=>?_,fun hd=>?_⟩)
   ·rcases List.mem_cons.1 ((h d).1 (List.mem_cons_of_mem _ hd)) with e|e
    ·subst e;exact absurd (p1 _ hd) (DL.irrefl _)
    ·exact e
   ·rcases List.mem_cons.1 ((h d).2 (List.mem_cons_of_mem _ hd)) with e|e
    ·subst e;exact absurd (q1 _ hd) (DL.irrefl _)
    ·exact e
theorem getD_mem_d {l:List Dot} {k:Nat} (h:k<l.length):l.getD k (0,0) ∈ l:=by simp [List.getD,h]
theorem drop_cons_d (l:List Dot) (k:Nat) (h:k<l.length):l.drop k=l.getD k (0,0)::l.drop (k+1):=by
 rw [List.drop_eq_getElem_cons h];simp [List.getD,h]
theorem dpos_spec (out:List Dot) (d:Dot):∀k,k≤out.length→(∀e ∈ out.drop k,DL d e)→(∀e ∈ out.drop (dpos out d k),DL d e)∧(dpos out d k=0∨¬DL d (out.getD (dpos out d k-1) (0,0)))
 | 0,_,h=>⟨h,.inl rfl⟩
 | k+1,hk,h=>by
   unfold dpos
   split
   ·rename_i hl
    refine dpos_spec out d k oe (fun e he=>?_)
    rw [drop_cons_d out k oe] at he
    rcases List.mem_cons.1 he with rfl|he
    ·exact dlt_iff.1 hl
    ·exact h e he
   ·rename_i hl
    exact ⟨h,.inr (by rw [Nat.add_sub_cancel];exact fun e=>hl (dlt_iff.2 e))⟩
theorem rise_take {l:List Dot} (h:Rise l) (k:Nat):Rise (l.take k):=h.sublist (List.take_sublist _ _)
theorem rise_drop {l:List Dot} (h:Rise l) (k:Nat):Rise (l.drop k):=h.sublist (List.drop_sublist _ _)
theorem rise_before {l:List Dot} (h:Rise l) {k:Nat} (hk:k<l.length) {e:Dot} (he:e ∈ l.take (k+1)):e=l.getD k (0,0)∨DL e (l.getD k (0,0)):=by
 rw [tsd l k hk,List.mem_append,List.mem_singleton] at he
 rcases he with he|he
 ·right
  have h2:=rise_take h (k+1)
  rw [tsd l k hk] at h2
  exact (List.pairwise_append.1 h2).2.2 e he _ qb
 ·exact .inl he
theorem dins_rise {out:List Dot} (h:Rise out) (d:Dot):Rise (dins out d)∧∀e,e ∈ dins out d↔e ∈ out∨e=d:=by
 unfold dins
 split
 ·rename_i hd
  exact ⟨h,fun e=>⟨.inl,fun he=>he.elim id (fun e'=>by rw [e'];exact hd)⟩⟩
 ·rename_i hd
  obtain ⟨s1,s2⟩:=dpos_spec out d out.length (Nat.le_refl _) qb
  have hle:=dpos_le out d out.length
  generalize dpos out d out.length=p at *
  have hb:∀e ∈ out.take p,DL e d:=by
   intro e he
   rcases s2 with rfl|s2
   ·simp at he
   ·rcases Nat.eq_zero_or_pos p with h0|h0
    ·subst h0;simp at he
    ·have hk:p-1<out.length:=by omega
     have hx:DL (out.getD (p-1) (0,0)) d:=by
      rcases DL.tri (out.getD (p-1) (0,0)) d with h|h|h
      ·exact h
      ·exact absurd (by rw [←h];exact getD_mem_d hk) hd
      ·exact absurd h s2
     have:=rise_before h hk (e:=e) (by rw [show p-1+1=p by omega];exact he)
     rcases this with rfl|this
     ·exact hx
     ·exact this.trans hx
  refine ⟨?_,fun e=>?_⟩
  ·refine List.pairwise_append.2 ⟨List.pairwise_append.2 ⟨rise_take h p,List.pairwise_singleton _ _,fun a ha b hb'=>?_⟩,rise_drop h p,fun a ha b hb'=>?_⟩
   ·rw [List.mem_singleton] at hb';subst hb';exact hb a ha
   ·rcases List.mem_append.1 ha with ha|ha
    ·exact (hb a ha).trans (s1 b hb')
    ·rw [List.mem_singleton] at ha;subst ha;exact s1 b hb'
  ·conv=>rhs;rw [←List.take_append_drop p out]
   simp only [List.mem_append,List.mem_singleton]
   constructor
   ·rintro ((h|h)|h)
    ·exact .inl (.inl h)
    ·exact .inr h
    ·exact .inl (.inr h)
   ·rintro ((h|h)|h)
    ·exact .inl (.inl h)
    ·exact .inr h
    ·exact .inl (.inr h)
theorem dsort_spec (l:List Dot):Rise (dsort l)∧∀e,e ∈ dsort l↔e ∈ l:=by
 have key:∀(l out:List Dot),Rise out→Rise (l.foldl dins out)∧∀e,e ∈ l.foldl dins out↔e ∈ out∨e ∈ l:=by
  intro l
  induction l with
  | nil=>intro out h;exact ⟨h,by simp⟩
  | cons d l ih =>
    intro out h
    obtain ⟨h1,h2⟩:=dins_rise h d
    obtain ⟨h3,h4⟩:=ih _ h1
    refine ⟨h3,fun e=>?_⟩
    rw [List.foldl_cons,h4,h2,List.mem_cons,or_assoc]
 obtain ⟨h1,h2⟩:=key l [] List.Pairwise.nil
 exact ⟨h1,fun e=>by have:=h2 e;simp only [List.not_mem_nil,false_or] at this;exact this⟩
theorem dsort_eq {l k:List Dot} (hk:Rise k) (h:∀d,d ∈ k↔d ∈ l):k=dsort l:=rise_eq hk (dsort_spec l).1 (fun d=>(h d).trans ((dsort_spec l).2 d).symm)
theorem Rise.filter {l:List Dot} (h:Rise l) (p:Dot→Bool):Rise (l.filter p):=h.sublist List.filter_sublist
theorem cfold_far (u:Int):∀(l out:List Dot),(∀d ∈ l,u+1<d.2)→l.foldl cstep (u,out)=(u,out++l)
 | [],out,_=>by simp
 | d::l,out,h=>by
   have hd:=h d qb
   have e:cstep (u,out) d=(u,out++[d]):=by unfold cstep;dsimp only;rw [if_neg oe,if_pos oe]
   rw [List.foldl_cons,e,cfold_far u l _ (fun x hx=>h x (List.mem_cons_of_mem _ hx))]
   simp
def takenL:Int→List Dot→Int × List Dot
 | u,[]=>(u,[])
 | u,d::l=>if u+1<d.2 then (u,d::l) else takenL (max u d.2) l
def RN (l:List Dot):Prop:=l.Pairwise fun a b=>a.2<b.2
theorem taken_fold:∀(l:List Dot) (u:Int),RN l→takenL u l=cfold u l
 | [],u,_=>rfl
 | d::l,u,h=>by
   obtain ⟨h1,h2⟩:=List.pairwise_cons.1 h
   unfold takenL cfold
   rw [List.foldl_cons]
   split
   ·rename_i hd
    have e:cstep (u,[]) d=(u,[d]):=by unfold cstep;dsimp only;rw [if_neg oe,if_pos oe];rfl
    rw [e,cfold_far u l _ (fun x hx=>by have:=h1 x hx;omega)];rfl
   ·rename_i hd
    rw [taken_fold l _ h2]
    unfold cfold
    congr 1
    unfold cstep
    dsimp only
    by_cases he:d.2=u+1
    ·rw [if_pos he];congr 1;omega
    ·rw [if_neg he,if_neg oe];congr 1;omega
theorem taken_spec:∀(l:List Dot) (u:Int),RN l→u≤(takenL u l).1∧(∀n,u<n→n≤(takenL u l).1→∃d ∈ l,d.2=n)∧(takenL u l).2.Sublist l∧(∀d ∈ l,d.2≤(takenL u l).1∨d ∈ (takenL u l).2)∧(∀d ∈ (takenL u l).2,(takenL u l).1+1<d.2)
 | [],u,_=>⟨Int.le_refl _,fun n h1 h2=>by unfold takenL at h2;dsimp only at h2;omega,List.Sublist.refl _,by simp,by simp [takenL]⟩
 | d::l,u,h=>by
   obtain ⟨h1,h2⟩:=List.pairwise_cons.1 h
   unfold takenL
   split
   ·rename_i hd
    refine ⟨Int.le_refl _,fun n h1 h2=>by dsimp only at h2;omega,List.Sublist.refl _,fun x hx=>.inr hx,fun x hx=>?_⟩
    rcases List.mem_cons.1 hx with rfl|hx
    ·exact hd
    ·have:=h1 x hx;dsimp only;omega
   ·rename_i hd
    obtain ⟨i1,i2,i3,i4,i5⟩:=taken_spec l (max u d.2) h2
    refine ⟨by omega,fun n a1 a2=>?_,i3.cons _,fun x hx=>?_,i5⟩
    ·by_cases hn:max u d.2<n
     ·obtain ⟨x,hx,e⟩:=i2 n hn a2
      exact ⟨x,List.mem_cons_of_mem _ hx,e⟩
     ·exact ⟨d,by simp,by omega⟩
    ·rcases List.mem_cons.1 hx with rfl|hx
     ·left;omega
     ·exact i4 x hx
theorem rise_node {l:List Dot} (h:Rise l) (x:Int):RN (l.filter fun d=>d.1 == x):=by
 have hf:=h.filter (fun d=>d.1 == x)
 refine List.Pairwise.imp_of_mem ?_ hf
 intro a b ha hb hab
 have h1:a.1=x:=by simpa using (List.mem_filter.1 ha).2
 have h2:b.1=x:=by simpa using (List.mem_filter.1 hb).2
 unfold DL at hab;omega
theorem cof_taken (x u:Int) (cl:List Dot):cof x u cl=takenL u ((dsort cl).filter fun d=>d.1 == x):=(taken_fold _ u (rise_node (dsort_spec cl).1 x)).symm
end
section
open Go.RowKit Go.Maps
def BR (B:List Dot):Prop:=B.Pairwise fun a b=>a.1<b.1
structure COk (B C:List Dot):Prop where
 br:BR B
 bok:∀d ∈ B,dok d
 cr:Rise C
 cok:∀d ∈ C,dok d
 far:∀d ∈ C,cbase B d.1+1<d.2
structure CWk (B C:List Dot):Prop where
 br:BR B
 bok:∀d ∈ B,dok d
 cok:∀d ∈ C,dok d
theorem COk.wk {B C:List Dot} (h:COk B C):CWk B C:=⟨h.br,h.bok,h.cok⟩
theorem COk.nil:COk [] []:=⟨List.Pairwise.nil,by simp,List.Pairwise.nil,by simp,by simp⟩
theorem cbase_cons (d:Dot) (B:List Dot) (x:Int):cbase (d::B) x=if d.1=x then d.2 else cbase B x:=by
 unfold cbase
 by_cases h:d.1=x
 ·have e:(d.1 == x)=true:=by simpa using h
  rw [List.find?_cons,e,if_pos h];rfl
 ·have e:(d.1 == x)=false:=by simpa using h
  rw [List.find?_cons,e,if_neg h]
theorem cbase_mem:∀{B:List Dot},BR B→∀{d:Dot},d ∈ B→cbase B d.1=d.2
 | [],_,_,h=>absurd h qb
 | e::B,hb,d,h=>by
   obtain ⟨h1,h2⟩:=List.pairwise_cons.1 hb
   rw [cbase_cons]
   rcases List.mem_cons.1 h with rfl|h
   ·rw [if_pos rfl]
   ·have:=h1 d h
    rw [if_neg oe,cbase_mem h2 h]
theorem cbase_pos:∀{B:List Dot} {x:Int},cbase B x≠0→(x,cbase B x) ∈ B
 | [],x,h=>absurd rfl h
 | e::B,x,h=>by
   rw [cbase_cons] at h ⊢
   by_cases he:e.1=x
   ·rw [if_pos he] at h ⊢
    have:(x,e.2)=e:=by rw [←he]
    rw [this];simp
   ·rw [if_neg he] at h ⊢
    exact List.mem_cons_of_mem _ (cbase_pos h)
theorem cbase_bds {B:List Dot} (h:∀d ∈ B,dok d) (x:Int):0≤cbase B x∧cbase B x≤1099511627776:=by
 by_cases h0:cbase B x=0
 ·omega
 ·have:=h _ (cbase_pos h0)
  unfold dok at this;dsimp only at this;omega
theorem chas_iff {B C:List Dot} {d:Dot}:chas B C d=true↔dok d∧(d.2≤cbase B d.1∨d ∈ C):=by
 unfold chas;rw [Bool.and_eq_true,dchk_iff,Bool.or_eq_true,decide_eq_true_eq,decide_eq_true_eq]
theorem chas_cloud {B C:List Dot} (h:∀d ∈ C,dok d) {d:Dot} (hd:d ∈ C):chas B C d=true:=chas_iff.2 ⟨h d hd,.inr hd⟩
theorem br_rise {B:List Dot} (h:BR B):Rise B:=h.imp (fun {_ _} h=>.inl h)
theorem base_le {B C B' C' : List Dot} (h:COk B C) (h' : COk B' C') (hs:∀d,chas B C d=true→chas B' C' d=true) (x:Int):cbase B x≤cbase B' x:=by
 rcases Int.lt_or_le (cbase B' x) (cbase B x) with hlt|hle
 ·exfalso
  have hb:=cbase_bds h.bok x
  have hb':=cbase_bds h'.bok x
  have hm:=h.bok _ (cbase_pos (x:=x) (B:=B) oe)
  unfold dok at hm
  dsimp only at hm
  have h1:chas B C (x,cbase B' x+1)=true:=chas_iff.2 ⟨by unfold dok;dsimp only;omega,.inl (by dsimp only;omega)⟩
  obtain ⟨_,h2⟩:=chas_iff.1 (hs _ h1)
  rcases h2 with h2|h2
  ·dsimp only at h2;omega
  ·have:=h'.far _ h2;dsimp only at this;omega
 ·exact hle
theorem canon_eq {B C B' C' : List Dot} (h:COk B C) (h' : COk B' C') (hs:∀d,chas B C d=chas B' C' d):B=B'∧C=C':=by
 have hbase:∀x,cbase B x=cbase B' x:=fun x=>by
  have h1:=base_le h h' (fun d hd=>by rw [←hs];exact hd) x
  have h2:=base_le h' h (fun d hd=>by rw [hs];exact hd) x
  omega
 have hB:∀{B B' : List Dot},BR B→(∀d ∈ B,dok d)→(∀x,cbase B x=cbase B' x)→∀d,d ∈ B→d ∈ B':=fun {B B'} hb hok he d hd=>by
  have e:=cbase_mem hb hd
  have hd2:=hok d hd
  unfold dok at hd2
  have hp:=cbase_pos (B:=B') (x:=d.1) (by rw [←he,e];omega)
  rw [←he,e] at hp
  exact hp
 have e1:B=B':=rise_eq (br_rise h.br) (br_rise h'.br) (fun d=>⟨hB h.br h.bok hbase d,hB h'.br h'.bok (fun x=>(hbase x).symm) d⟩)
 subst e1
 refine ⟨rfl,rise_eq h.cr h'.cr (fun d=>⟨fun hd=>?_,fun hd=>?_⟩)⟩
 ·have h1:=chas_cloud (B:=B) h.cok hd
  rw [hs] at h1
  rcases (chas_iff.1 h1).2 with h2|h2
  ·have:=h.far d hd;omega
  ·exact h2
 ·have h1:=chas_cloud (B:=B) h'.cok hd
  rw [←hs] at h1
  rcases (chas_iff.1 h1).2 with h2|h2
  ·have:=h'.far d hd;omega
  ·exact h2
theorem node_rise {l:List Dot} (h:Rise l) (h0:∀d ∈ l,d.2=0):(l.map (·.1)).Pairwise (·< ·):=by
 rw [List.pairwise_map]
 refine List.Pairwise.imp_of_mem ?_ h
 intro a b ha hb hab
 have:=h0 a ha
 have:=h0 b hb
 unfold DL at hab;omega
theorem cnodes_spec (B C:List Dot):(cnodes B C).Pairwise (·< ·)∧∀x,x ∈ cnodes B C↔∃d,(d ∈ B∨d ∈ C)∧d.1=x:=by
 obtain ⟨h1,h2⟩:=dsort_spec (B.map node0++C.map node0)
 constructor
 ·refine node_rise h1 (fun d hd=>?_)
  rw [h2,List.mem_append] at hd
  rcases hd with hd|hd <;> (obtain ⟨e,_,rfl⟩:=List.mem_map.1 hd;rfl)
 ·intro x
  unfold cnodes
  rw [List.mem_map]
  constructor
  ·rintro ⟨d,hd,rfl⟩
   rw [h2,List.mem_append] at hd
   rcases hd with hd|hd
   ·obtain ⟨e,he,rfl⟩:=List.mem_map.1 hd
    exact ⟨e,.inl he,rfl⟩
   ·obtain ⟨e,he,rfl⟩:=List.mem_map.1 hd
    exact ⟨e,.inr he,rfl⟩
  ·rintro ⟨d,hd,rfl⟩
   refine ⟨node0 d,?_,rfl⟩
   rw [h2,List.mem_append]
   rcases hd with hd|hd
   ·exact .inl (List.mem_map.2 ⟨d,hd,rfl⟩)
   ·exact .inr (List.mem_map.2 ⟨d,hd,rfl⟩)
def jk (aB bB cl:List Dot) (x:Int):Int:=(cof x (max (cbase aB x) (cbase bB x)) cl).1
def jo (aB bB cl:List Dot) (x:Int):List Dot:=(cof x (max (cbase aB x) (cbase bB x)) cl).2
theorem jfold_eq (aB bB cl:List Dot):∀(N:List Int) (X Y:List Dot),N.foldl (jstep aB bB cl) (X,Y)=(X++N.flatMap (fun x=>if 0<jk aB bB cl x then [(x,jk aB bB cl x)] else []),Y++N.flatMap (jo aB bB cl))
 | [],X,Y=>by simp
 | x::N,X,Y=>by
   rw [List.foldl_cons]
   have e:jstep aB bB cl (X,Y) x=(X++(if 0<jk aB bB cl x then [(x,jk aB bB cl x)] else []),Y++jo aB bB cl x):=by
    unfold jstep jk jo
    dsimp only
    split <;> simp
   rw [e,jfold_eq aB bB cl N]
   simp
theorem cjoin_eq (aB aC bB bC:List Dot):cjoin aB aC bB bC=((cnodes (aB++bB) (aC++bC)).flatMap (fun x=>if 0<jk aB bB (aC++bC) x then [(x,jk aB bB (aC++bC) x)] else []),(cnodes (aB++bB) (aC++bC)).flatMap (jo aB bB (aC++bC))):=by
 unfold cjoin;rw [jfold_eq];simp
section
variable {aB aC bB bC:List Dot}
theorem jx (ha:CWk aB aC) (hb:CWk bB bC) (x:Int) :
 max (cbase aB x) (cbase bB x)≤jk aB bB (aC++bC) x∧jk aB bB (aC++bC) x≤1099511627776 ∧
 (∀n,max (cbase aB x) (cbase bB x)<n→n≤jk aB bB (aC++bC) x→(x,n) ∈ aC++bC) ∧
 (∀d ∈ jo aB bB (aC++bC) x,d ∈ aC++bC∧d.1=x∧jk aB bB (aC++bC) x+1<d.2) ∧
 (∀d ∈ aC++bC,d.1=x→d.2≤jk aB bB (aC++bC) x∨d ∈ jo aB bB (aC++bC) x)∧Rise (jo aB bB (aC++bC) x):=by
 obtain ⟨hr,hm⟩:=dsort_spec (aC++bC)
 have hrn:=rise_node hr x
 obtain ⟨t1,t2,t3,t4,t5⟩:=taken_spec ((dsort (aC++bC)).filter fun d=>d.1 == x) (max (cbase aB x) (cbase bB x)) hrn
 have ek:jk aB bB (aC++bC) x=(takenL (max (cbase aB x) (cbase bB x)) ((dsort (aC++bC)).filter fun d=>d.1 == x)).1:=by unfold jk;rw [cof_taken]
 have eo:jo aB bB (aC++bC) x=(takenL (max (cbase aB x) (cbase bB x)) ((dsort (aC++bC)).filter fun d=>d.1 == x)).2:=by unfold jo;rw [cof_taken]
 simp only [←ek,←eo] at t1 t2 t3 t4 t5
 have hmem:∀d ∈ (dsort (aC++bC)).filter (fun d=>d.1 == x),d ∈ aC++bC∧d.1=x:=fun d hd=>⟨(hm d).1 (List.mem_filter.1 hd).1,by simpa using (List.mem_filter.1 hd).2⟩
 have hall:∀n,max (cbase aB x) (cbase bB x)<n→n≤jk aB bB (aC++bC) x→(x,n) ∈ aC++bC:=by
  intro n h1 h2
  obtain ⟨d,hd,rfl⟩:=t2 n h1 h2
  obtain ⟨m1,m2⟩:=hmem d hd
  have:(x,d.2)=d:=by rw [←m2]
  rw [this];exact m1
 refine ⟨t1,?_,hall,fun d hd=>?_,fun d hd hx=>?_,(hr.filter _).sublist t3⟩
 ·have b1:=cbase_bds ha.bok x
  have b2:=cbase_bds hb.bok x
  rcases Int.lt_or_le (max (cbase aB x) (cbase bB x)) (jk aB bB (aC++bC) x) with h|h
  ·have:=hall _ h (Int.le_refl _)
   have hd:dok (x,jk aB bB (aC++bC) x):=by
    rcases List.mem_append.1 this with h|h
    ·exact ha.cok _ h
    ·exact hb.cok _ h
   unfold dok at hd;dsimp only at hd;omega
  ·omega
 ·obtain ⟨m1,m2⟩:=hmem d (t3.subset hd)
  exact ⟨m1,m2,t5 d hd⟩
 ·exact t4 d (List.mem_filter.2 ⟨(hm d).2 hd,by simpa using hx⟩)
theorem flat_rise {N:List Int} (hN:N.Pairwise (·< ·)) {f:Int→List Dot} (h1:∀x ∈ N,Rise (f x)) (h2:∀x ∈ N,∀d ∈ f x,d.1=x):Rise (N.flatMap f):=by
 induction N with
 | nil=>exact List.Pairwise.nil
 | cons x N ih =>
   obtain ⟨p1,p2⟩:=List.pairwise_cons.1 hN
   rw [List.flatMap_cons]
   refine List.pairwise_append.2 ⟨h1 x qb,ih p2 (fun y hy=>h1 y (List.mem_cons_of_mem _ hy)) (fun y hy=>h2 y (List.mem_cons_of_mem _ hy)),fun a ha b hb=>?_⟩
   obtain ⟨y,hy,hb⟩:=List.mem_flatMap.1 hb
   have e1:=h2 x qb a ha
   have e2:=h2 y (List.mem_cons_of_mem _ hy) b hb
   have:=p1 y hy
   exact .inl oe
theorem jbase_mem {d:Dot}:d ∈ (cjoin aB aC bB bC).1↔d.1 ∈ cnodes (aB++bB) (aC++bC)∧0<d.2∧d.2=jk aB bB (aC++bC) d.1:=by
 rw [cjoin_eq]
 show d ∈ List.flatMap _ _↔_
 rw [List.mem_flatMap]
 constructor
 ·rintro ⟨x,hx,hd⟩
  split at hd
  ·rename_i hp
   rw [List.mem_singleton] at hd
   subst hd
   exact ⟨hx,hp,rfl⟩
  ·simp at hd
 ·rintro ⟨h1,h2,h3⟩
  refine ⟨d.1,h1,?_⟩
  rw [if_pos oe,List.mem_singleton]
  rw [←h3]
theorem jcloud_mem {d:Dot}:d ∈ (cjoin aB aC bB bC).2↔∃x ∈ cnodes (aB++bB) (aC++bC),d ∈ jo aB bB (aC++bC) x:=by
 rw [cjoin_eq]
 exact List.mem_flatMap
theorem jbase_br:BR (cjoin aB aC bB bC).1:=by
 have hN:=(cnodes_spec (aB++bB) (aC++bC)).1
 rw [cjoin_eq]
 show BR (List.flatMap _ _)
 have key:∀N:List Int,N.Pairwise (·< ·)→BR (N.flatMap (fun x=>if 0<jk aB bB (aC++bC) x then [(x,jk aB bB (aC++bC) x)] else [])):=by
  intro N
  induction N with
  | nil=>intro _;exact List.Pairwise.nil
  | cons x N ih =>
    intro h
    obtain ⟨p1,p2⟩:=List.pairwise_cons.1 h
    rw [List.flatMap_cons]
    refine List.pairwise_append.2 ⟨?_,ih p2,fun a ha b hb=>?_⟩
    ·split
     ·exact List.pairwise_singleton _ _
     ·exact List.Pairwise.nil
    ·obtain ⟨y,hy,hb⟩:=List.mem_flatMap.1 hb
     have e1:a.1=x:=by
      split at ha
      ·rw [List.mem_singleton] at ha;subst ha;rfl
      ·simp at ha
     have e2:b.1=y:=by
      split at hb
      ·rw [List.mem_singleton] at hb;subst hb;rfl
      ·simp at hb
     have:=p1 y hy
     omega
 exact key _ hN
theorem jbase_eq (ha:CWk aB aC) (hb:CWk bB bC) {x:Int} (hx:x ∈ cnodes (aB++bB) (aC++bC)):cbase (cjoin aB aC bB bC).1 x=jk aB bB (aC++bC) x:=by
 obtain ⟨j1,j2,_⟩:=jx ha hb x
 have b1:=cbase_bds ha.bok x
 by_cases h0:0<jk aB bB (aC++bC) x
 ·have:=jbase_mem (aB:=aB) (aC:=aC) (bB:=bB) (bC:=bC) (d:=(x,jk aB bB (aC++bC) x)) |>.2 ⟨hx,h0,rfl⟩
  exact cbase_mem jbase_br this
 ·have hz:jk aB bB (aC++bC) x=0:=by omega
  rw [hz]
  by_cases hc:cbase (cjoin aB aC bB bC).1 x=0
  ·exact hc
  ·have:=(jbase_mem.1 (cbase_pos hc))
   dsimp only at this
   omega
theorem cjoin_ok (ha:CWk aB aC) (hb:CWk bB bC):COk (cjoin aB aC bB bC).1 (cjoin aB aC bB bC).2∧∀d,chas (cjoin aB aC bB bC).1 (cjoin aB aC bB bC).2 d=(chas aB aC d || chas bB bC d):=by
 obtain ⟨hN,hNm⟩:=cnodes_spec (aB++bB) (aC++bC)
 have hnode:∀{x:Int},x ∈ cnodes (aB++bB) (aC++bC)→1≤x∧x≤1099511627776:=fun {x} hx=>by
  obtain ⟨d,hd,rfl⟩:=(hNm x).1 hx
  have:dok d:=by
   rcases hd with hd|hd
   ·rcases List.mem_append.1 hd with h|h
    ·exact ha.bok d h
    ·exact hb.bok d h
   ·rcases List.mem_append.1 hd with h|h
    ·exact ha.cok d h
    ·exact hb.cok d h
  exact ⟨this.1,this.2.1⟩
 have hcl:∀d ∈ aC++bC,dok d:=fun d hd=>by
  rcases List.mem_append.1 hd with h|h
  ·exact ha.cok d h
  ·exact hb.cok d h
 have hok:COk (cjoin aB aC bB bC).1 (cjoin aB aC bB bC).2:=by
  refine ⟨jbase_br,fun d hd=>?_,?_,fun d hd=>?_,fun d hd=>?_⟩
  ·obtain ⟨h1,h2,h3⟩:=jbase_mem.1 hd
   obtain ⟨j1,j2,_⟩:=jx ha hb d.1
   have:=hnode h1
   unfold dok;omega
  ·rw [cjoin_eq]
   exact flat_rise hN (fun x _=>(jx ha hb x).2.2.2.2.2) (fun x _ d hd=>((jx ha hb x).2.2.2.1 d hd).2.1)
  ·obtain ⟨x,hx,hd⟩:=jcloud_mem.1 hd
   exact hcl d ((jx ha hb x).2.2.2.1 d hd).1
  ·obtain ⟨x,hx,hd⟩:=jcloud_mem.1 hd
   obtain ⟨h1,h2,h3⟩:=(jx ha hb x).2.2.2.1 d hd
   subst h2
   rw [jbase_eq ha hb hx];exact h3
 refine ⟨hok,fun d=>?_⟩
 rw [Bool.eq_iff_iff,Bool.or_eq_true,chas_iff,chas_iff,chas_iff]
 have b1:=cbase_bds ha.bok d.1
 have b2:=cbase_bds hb.bok d.1
 obtain ⟨j1,j2,j3,j4,j5,_⟩:=jx ha hb d.1
 constructor
 ·rintro ⟨hd,h⟩
  have hcl' : d ∈ aC++bC→(dok d∧(d.2≤cbase aB d.1∨d ∈ aC))∨dok d∧(d.2≤cbase bB d.1∨d ∈ bC):=fun h=>by
   rcases List.mem_append.1 h with h|h
   ·exact .inl ⟨hd,.inr h⟩
   ·exact .inr ⟨hd,.inr h⟩
  rcases h with h|h
  ·have h1:=hd.2.2.1
   have hne:cbase (cjoin aB aC bB bC).1 d.1≠0:=by omega
   have hx:=(jbase_mem.1 (cbase_pos hne)).1
   rw [jbase_eq ha hb hx] at h
   by_cases hu:max (cbase aB d.1) (cbase bB d.1)<d.2
   ·exact hcl' (j3 d.2 hu h)
   ·by_cases h3:d.2≤cbase aB d.1
    ·exact .inl ⟨hd,.inl h3⟩
    ·exact .inr ⟨hd,.inl oe⟩
  ·obtain ⟨x,hx,h⟩:=jcloud_mem.1 h
   exact hcl' ((jx ha hb x).2.2.2.1 d h).1
 ·intro h
  have hd:dok d:=by rcases h with h|h <;> exact h.1
  refine ⟨hd,?_⟩
  have h1:=hd.2.2.1
  have hbs:∀{B:List Dot},d.2≤cbase B d.1→(d.1,cbase B d.1) ∈ B:=fun {B} h=>cbase_pos oe
  have hx:d.1 ∈ cnodes (aB++bB) (aC++bC):=by
   rw [hNm]
   rcases h with ⟨_,h|h⟩|⟨_,h|h⟩
   ·exact ⟨_,.inl (List.mem_append.2 (.inl (hbs h))),rfl⟩
   ·exact ⟨d,.inr (List.mem_append.2 (.inl h)),rfl⟩
   ·exact ⟨_,.inl (List.mem_append.2 (.inr (hbs h))),rfl⟩
   ·exact ⟨d,.inr (List.mem_append.2 (.inr h)),rfl⟩
  rw [jbase_eq ha hb hx]
  rcases h with ⟨_,h|h⟩|⟨_,h|h⟩
  ·exact .inl oe
  ·rcases j5 d (List.mem_append.2 (.inl h)) rfl with h|h
   ·exact .inl h
   ·exact .inr (jcloud_mem.2 ⟨_,hx,h⟩)
  ·exact .inl oe
  ·rcases j5 d (List.mem_append.2 (.inr h)) rfl with h|h
   ·exact .inl h
   ·exact .inr (jcloud_mem.2 ⟨_,hx,h⟩)
end
end
end Go.Proofs.YtdlpnhfgjficgaaGreat
