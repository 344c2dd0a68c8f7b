import Derived.Test.YtdlpnhfgjficgaaGreatMX41
import Derived.Shelf.Spec.SlicesGrow
namespace Go.Proofs.YtdlpnhfgjficgaaGreat
section
set_option maxHeartbeats 400000
open Go.RowKit Go.Maps Go.Shelf Go.Sort
theorem dclone_any (v:Value) (l:List Dot) (w:World) (hr:Dots w v l) (hl:l.length≤100000) :
 Calls Tryz.prog 43 #[v] w fun e w'=>∃v',e=.returned v'∧w'.ownsRow w.heap.size 28 2 v' l.length (dvs l)∧Pure w w':=by
 obtain ⟨a,cap,rfl⟩:=hr.shape
 obtain ⟨i0,hi,hz0,hz1,hz2⟩:=ipt infoDot
 have Hr:=hid hr
 cases a with
 | none =>
   obtain rfl:l=[]:=by
    obtain ⟨_,a',c',e,h1,h2,h3⟩:=hr
    cases e
    rcases h3 with rfl|⟨b,off,h,_⟩
    ·exact List.eq_nil_of_length_eq_zero oe
    ·cases h
   clear hr
   have he:=Lib.run_eql_slice_nil (P:=Tryz.prog) w 30 28 none 0 cap 0 0 Tryz.underlying30
   simp only [Option.isNone_none] at he
   go_enter Tryz.func43,Tryz.ntmps43
   go_wp2
   go_ret
   exact ⟨_,rfl,World.ownsRow_nil _ _ _ _,Below.refl _ _⟩
 | some x =>
   have he:=Lib.run_eql_slice_nil (P:=Tryz.prog) w 30 28 (some x) l.length cap 0 0 Tryz.underlying30
   simp only [Option.isNone_some] at he
   have hnews:∀j u,(dvs l)[j]?=some u→(w.alloc (.cells #[] 28)).cell? (x.add j)=some u:=by
    intro j u hj
    have hjl:j<(dvs l).length:=(List.getElem?_eq_some_iff.1 hj).1
    rw [dvs_len] at hjl
    obtain ⟨_,a',c',e,h1,h2,h3⟩:=hr
    cases e
    rcases h3 with rfl|⟨b,off,e,hbw,hcell⟩
    ·omega
    ·cases e
     rw [Addr.add_lit,World.cell?_alloc_lt _ _ _ hbw,hcell j hjl,hj]
   have Hn:=hid hnews
   clear hnews hr
   go_enter Tryz.func43,Tryz.ntmps43
   go_wp2_with (at_builtin;refine wpList_append_own _ rfl _ _ 30 rfl w.heap.size 28 i0 (.agg #[.int .i64 0,.int .i64 0]) 2 16 Tryz.underlying30 hi hz0 hz1 hz2 rfl qd _ 0 [] rfl (World.ownsRow_made w #[] 0 (Nat.le_refl _) (Nat.zero_le _) rfl) x l.length cap (dvs l) rfl (by rw [dvs_len]) Hn.out ?c2 ?c3 ?c4 ?c5 ?_)
   case c2=>intro u hu;exact dvs_one l u hu
   case c3=>unfold maxLen;omega
   case c4=>omega
   case c5=>simp
   intro v' w2 hown2 hg2 _
   have hown3:w2.ownsRow w.heap.size 28 2 v' l.length (dvs l):=by simpa using hown2
   go_wp2
   go_ret
   exact ⟨_,rfl,hown3,qp.grown hg2 qb (fun j hj=>by simp [Value.ownBlock] at hj;omega)⟩
theorem ltof_dcmp (x y:Dot):ltOf dcmp x y=dlt x y:=dcmp_lt x y
theorem swo_dcmp:SWO (ltOf dcmp) where
 irrefl x:=by rw [ltof_dcmp,dlt_false];exact DL.irrefl x
 trans x y z h1 h2:=by rw [ltof_dcmp,dlt_iff] at *;exact h1.trans h2
 ntrans x y z h1 h2:=by
  rw [ltof_dcmp,dlt_false] at *
  unfold DL at *;omega
instance:Inhabited Dot:=⟨(0,0)⟩
theorem cmpLays (blk off size:Nat) (w:World):CmpLays Tryz.prog 187 #[] dcells 2 dcmp blk off size w :=
 fun _ _ _ _ x y=>(cmp_any x y _).mono fun _ _ ⟨he,q,os,hw⟩=>⟨he,q,os,hw⟩
theorem heap_put {α:Type} [Inhabited α] {enc:α→Value} {w:World} {g n:Nat} {cur:Array Value} {e:TypeId} {fr:Nat × Nat} (d:Array α) (hb:w.heap[g]?=some (.cells cur e fr)) :
 (putRow enc (Sort.ahead w n) g 0 d).heap[g]?=some (.cells (putCells enc 0 d cur) e fr):=by
 simp [putRow,mapBlock,Sort.ahead,Array.getElem?_modify,hb,onCells]
theorem grownBy_put {α:Type} [Inhabited α] {enc:α→Value} {w:World} {g n:Nat} (d:Array α):w.grownBy (putRow enc (Sort.ahead w n) g 0 d) (some g):=by
 refine ⟨rfl,rfl,rfl,by simp,fun k hk hne=>?_⟩
 have:g≠k:=fun e=>hne (by rw [e])
 simp [putRow,mapBlock,Sort.ahead,Array.getElem?_modify,this]
theorem take_put {α:Type} [Inhabited α] {enc:α→Value} (cur:Array Value) (ts us:List α) (h:ts.length+us.length≤cur.size):(putCells enc 0 (ts++us).toArray cur).toList.take ts.length=ts.map enc:=by
 apply List.ext_getElem?
 intro j
 by_cases hj:j<ts.length
 ·rw [List.getElem?_take_of_lt hj,Array.getElem?_toList]
  have h1:j<cur.size:=by omega
  have h2:j<ts.length+us.length:=by omega
  simp [putCells,h1,h2,hj]
 ·rw [List.getElem?_take_eq_none oe,List.getElem?_eq_none qc]
theorem flat_dvs (d:Array Dot):(flatK dcells 2 d).toList=dvs d.toList:=by
 apply List.ext_getElem?
 intro t
 by_cases ht:t<d.size*2
 ·have h1:(flatK dcells 2 d).toList[t]?=some (dcells d[t / 2]!)[t % 2]!:=by
   rw [Array.getElem?_toList,←get_flatK dcells 2 d t ht]
   have:t<(flatK dcells 2 d).size:=by simpa using ht
   rw [getElem!_pos _ t this,Array.getElem?_eq_getElem this]
  have hk:t / 2<d.toList.length:=by simp;omega
  obtain ⟨g1,g2⟩:=dvs_get d.toList (t / 2) hk
  have hd:d.toList.getD (t / 2) (0,0)=d[t / 2]!:=by
   have:t / 2<d.size:=by omega
   simp [List.getD,this]
  rw [hd] at g1 g2
  rw [h1]
  rcases Nat.mod_two_eq_zero_or_one t with h|h
  ·have e:t / 2*2=t:=by omega
   rw [e] at g1
   rw [g1,h];rfl
  ·have e:t / 2*2+1=t:=by omega
   rw [e] at g2
   rw [g2,h];rfl
 ·rw [List.getElem?_eq_none qc,List.getElem?_eq_none (by rw [dvs_len];simp;omega)]
theorem holdsK_own {w:World} {g:Nat} {cur:Array Value} {e:TypeId} {l:List Dot} (hb:w.heap[g]?=some (.cells cur e (0,0))) (ht:cur.toList.take (l.length*2)=dvs l):HoldsK dcells 2 w g 0 l.toArray:=by
 intro j hj
 have hj' : j<l.length*2:=by simpa using hj
 refine ⟨?_,by simp [World.frozen?,hb]⟩
 have h1:(cur.toList.take (l.length*2))[j]?=(dvs l)[j]?:=by rw [ht]
 rw [List.getElem?_take_of_lt hj'] at h1
 simp only [World.cell?,hb,Nat.zero_add]
 simp only [Option.isSome_none,Bool.false_eq_true,if_false]
 rw [←Array.getElem?_toList,h1,show dvs l=(flatK dcells 2 l.toArray).toList by rw [flat_dvs]]
 rw [Array.getElem?_toList,getElem!_pos _ j hj,Array.getElem?_eq_getElem hj];rfl
theorem sortedK_block {w:World} {g n:Nat} {cur:Array Value} {e:TypeId} {fr:Nat × Nat} (d:Array Dot) (os:Array Obj) (hb:w.heap[g]?=some (.cells cur e fr)) :
 (sortWorldK dcells 2 w g 0 n d os).heap[g]?=some (.cells (putCells id 0 (flatK dcells 2 d) cur) e fr):=by
 have h:=heap_put (enc:=id) (w:=w) (n:=n) (flatK dcells 2 d) hb
 unfold sortWorldK putRowK
 rw [heap_grow_old _ _ (lob h)]
 exact h
theorem sortedK_grown {w:World} {g n:Nat} (d:Array Dot) (os:Array Obj):w.grownBy (sortWorldK dcells 2 w g 0 n d os) (some g):=by
 have h:w.grownBy (putRowK dcells 2 (Sort.ahead w n) g 0 d) (some g):=grownBy_put (enc:=id) (w:=w) (g:=g) (n:=n) (flatK dcells 2 d)
 refine ⟨h.os,h.tape,h.output,by have:=h.size;simp [sortWorldK,grow] at *;omega,fun k hk hne=>?_⟩
 rw [←h.block k hk hne]
 exact heap_grow_old _ _ (Nat.lt_of_lt_of_le hk h.size)
theorem take_putK (cur:Array Value) (d:Array Dot) (h:d.size*2≤cur.size):(putCells id 0 (flatK dcells 2 d) cur).toList.take (d.size*2)=dvs d.toList:=by
 have hh:=take_put (enc:=id) cur (flatK dcells 2 d).toList [] qc
 rw [List.append_nil,List.map_id,flat_dvs,dvs_len] at hh
 rw [←hh,←flat_dvs];simp
theorem sortedIn_pair (d:Array Dot) (h:SortedIn (ltOf dcmp) 0 d.size d):d.toList.Pairwise fun a b=>¬DL b a:=by
 rw [List.pairwise_iff_getElem]
 intro i j hi hj hij
 have:=h i j (Nat.zero_le _) hij (by simpa using hj)
 have hi' : i<d.size:=by simpa using hi
 have hj' : j<d.size:=by simpa using hj
 rw [ltof_dcmp,dlt_false,getElem!_pos d i hi',getElem!_pos d j hj'] at this
 simpa using this
theorem sortf_own (base:Nat) (v:Value) (l:List Dot) (w:World) (h:w.ownsRow base 28 2 v l.length (dvs l)) (hl:l.length≤100000) :
 Calls Tryz.prog 204 #[v,.func (.func 187) #[] #[]] w fun e w'=>e=.returned (.tuple #[])∧∃l' : List Dot,l'.Perm l∧l'.Pairwise (fun a b=>¬DL b a)∧w'.ownsRow base 28 2 v l'.length (dvs l')∧w.grownBy w' v.ownBlock:=by
 by_cases h0:l=[]
 ·subst h0
  obtain ⟨a,c,rfl⟩:=osd h
  refine (AnyF.slices_SortFunc_none { Tryz.sortD with } a c (.func (.func 187) #[] #[]) w).mono ?_
  rintro e w' ⟨rfl,rfl⟩
  exact ⟨rfl,[],List.Perm.refl _,List.Pairwise.nil,h,World.grownBy.refl _ _⟩
 ·obtain ⟨hlen,⟨rfl,h1⟩|⟨gb,cap,cur,rfl,hbase,hb,h1,h2,h3,h4⟩⟩:=h
  ·exact absurd (List.eq_nil_of_length_eq_zero h1) h0
  ·have eg:∀args w,(callFunc 187 args).run Tryz.prog w=.ok (.enter 187 args) w:=enters_of Tryz.func187 qk rfl
   have hcon:=AnyQ.slices_SortFunc Tryz.sortD 2 (fun w=>Tryz.isAgg28 w) (fun w=>Tryz.sizeOf28 w) dcells (fun _=>rfl) (fun x v hv=>by simp [dcells] at hv;rcases hv with rfl|rfl <;> rfl) dcmp swo_dcmp 187 #[] gb 0 cap l.toArray w eg (cmpLays gb 0 _ w) (holdsK_own hb h4) (lob hb) qc
   have esz:l.toArray.size=l.length:=by simp
   rw [esz] at hcon
   refine hcon.mono ?_
   rintro e w' ⟨rfl,d',n,os,⟨hp1,_,hp3⟩,hs,rfl⟩
   have hd:d'.size=l.length:=by simpa using hp1
   have hp:d'.toList.Perm l:=by
    have e1:List.take l.length d'.toList=d'.toList:=List.take_of_length_le (by simp [hd])
    have e2:(List.take l.length d'.toList).Perm l:=by simpa using hp3
    rwa [e1] at e2
   refine ⟨rfl,d'.toList,hp,sortedIn_pair d' (by rw [hd];exact hs),?_,sortedK_grown _ _⟩
   refine ⟨by rw [dvs_len],.inr ⟨gb,cap,_,?_,hbase,sortedK_block _ _ hb,by simp;omega,h2,by simp [putCells,h3],?_⟩⟩
   ·simp [hd]
   ·have e:d'.toList.length=d'.size:=by simp
    rw [e];exact take_putK cur d' (by rw [hd,h3];exact Nat.mul_le_mul_right _ h1)
end
section
open Go.RowKit Go.Maps Go.Shelf Go.Sort
def cst (out:List Dot) (d:Dot):List Dot:=if out.getLast?=some d then out else out++[d]
def compL (l:List Dot):List Dot:=l.foldl cst []
theorem compL_take (l:List Dot) (k:Nat) (h:k<l.length):compL (l.take (k+1))=cst (compL (l.take k)) (l.getD k (0,0)):=by
 unfold compL;rw [tsd l k h,List.foldl_append];rfl
theorem compL_last (l:List Dot) (k:Nat) (h:k<l.length):(compL (l.take (k+1))).getLast?=some (l.getD k (0,0)):=by
 rw [compL_take l k h];unfold cst
 split
 ·assumption
 ·simp
theorem compL_same {l:List Dot} {k:Nat} (h1:1≤k) (h:k<l.length) (e:l.getD k (0,0)=l.getD (k-1) (0,0)):compL (l.take (k+1))=compL (l.take k):=by
 obtain ⟨k,rfl⟩ : ∃j,k=j+1:=⟨k-1,by omega⟩
 rw [compL_take l _ h];unfold cst
 rw [compL_last l k oe,if_pos (by rw [e];simp)]
theorem compL_new {l:List Dot} {k:Nat} (h1:1≤k) (h:k<l.length) (e:¬l.getD k (0,0)=l.getD (k-1) (0,0)):compL (l.take (k+1))=compL (l.take k)++[l.getD k (0,0)]:=by
 obtain ⟨k,rfl⟩ : ∃j,k=j+1:=⟨k-1,by omega⟩
 rw [compL_take l _ h];unfold cst
 rw [compL_last l k oe,if_neg (by intro h;injection h with h;exact e (by simpa using h.symm))]
theorem compL_short {l:List Dot} (h:l.length<2):compL l=l:=by
 match l,h with
 | [],_=>rfl
 | [d],_=>simp [compL,cst]
theorem compL_one {l:List Dot} (h:1≤l.length):compL (l.take 1)=l.take 1:=compL_short qc
theorem compL_spec:∀(l out:List Dot),Rise out→(∀a ∈ out,∀b ∈ l,¬DL b a)→l.Pairwise (fun a b=>¬DL b a)→Rise (l.foldl cst out)∧∀d,d ∈ l.foldl cst out↔d ∈ out∨d ∈ l
 | [],out,h,_,_=>⟨h,by simp⟩
 | d::l,out,h,ha,hl=>by
   have hd:=(List.pairwise_cons.1 hl).1
   have hl':=(List.pairwise_cons.1 hl).2
   have hstep:Rise (cst out d)∧(∀e,e ∈ cst out d↔e ∈ out∨e=d):=by
    unfold cst
    split
    ·rename_i hlast
     have hm:d ∈ out:=List.mem_of_getLast? hlast
     exact ⟨h,fun e=>⟨.inl,fun o=>o.elim id (fun e=>by subst e;exact hm)⟩⟩
    ·rename_i hlast
     refine ⟨?_,by simp⟩
     unfold Rise at *
     rw [List.pairwise_append]
     refine ⟨h,List.pairwise_singleton _ _,fun a hao b hb=>?_⟩
     rw [List.mem_singleton] at hb
     subst hb
     rcases DL.tri a b with h1|h1|h1
     ·exact h1
     ·exfalso
      subst h1
      rcases List.eq_nil_or_concat out with rfl|⟨xs,e,rfl⟩
      ·cases hao
      ·rw [List.concat_eq_append] at *
       rw [List.mem_append,List.mem_singleton] at hao
       rcases hao with hx|rfl
       ·have:=(List.pairwise_append.1 h).2.2 a hx e qb
        exact ha e qb a qb this
       ·exact hlast qb
     ·exact absurd h1 (ha a hao b qb)
   obtain ⟨r1,r2⟩:=compL_spec l (cst out d) hstep.1 (fun a hao b hb=>by
    rcases (hstep.2 a).1 hao with h1|rfl
    ·exact ha a h1 b (List.mem_cons_of_mem _ hb)
    ·exact hd b hb) hl'
   refine ⟨r1,fun e=>?_⟩
   rw [List.foldl_cons,r2 e,hstep.2 e,List.mem_cons,or_assoc]
theorem compL_sort {l l' : List Dot} (hp:l'.Perm l) (hs:l'.Pairwise fun a b=>¬DL b a):compL l'=dsort l:=by
 obtain ⟨r1,r2⟩:=compL_spec l' [] List.Pairwise.nil qb hs
 exact dsort_eq r1 (fun d=>by rw [show compL l'=l'.foldl cst [] from rfl,r2 d];simp [hp.mem_iff])
theorem dvs_set:∀(l:List Dot) (k:Nat) (d:Dot),k<l.length→((dvs l).set (k*2) (.int .i64 d.1)).set (k*2+1) (.int .i64 d.2)=dvs (l.set k d)
 | [],k,_,h=>absurd h (Nat.not_lt_zero _)
 | a::l,0,d,_=>rfl
 | a::l,k+1,d,h=>by
   have ih:=dvs_set l k d (by simpa using h)
   have e:dvs (a::l)=.int .i64 a.1 :: .int .i64 a.2::dvs l:=rfl
   have e2:dvs ((a::l).set (k+1) d)=.int .i64 a.1 :: .int .i64 a.2::dvs (l.set k d):=rfl
   rw [e,e2,←ih,show (k+1)*2=k*2+1+1 by omega]
   simp
theorem own_get_d {w:World} {base n cap:Nat} {a:Option Addr} {l:List Dot} (h:w.ownsRow base 28 2 (.slice a n cap) l.length (dvs l)) {k:Nat} (hk:k<l.length) :
 ∃b cs,a=some ⟨b,0,none⟩∧base≤b∧w.heap[b]?=some (.cells cs 28 (0,0))∧w.cell? ⟨b,k*2,none⟩=some (.int .i64 (l.getD k (0,0)).1)∧w.cell? ⟨b,k*2+1,none⟩=some (.int .i64 (l.getD k (0,0)).2):=by
 obtain ⟨hl,⟨e,h0⟩|⟨g,cap',cur,e,hb,hg,h1,h2,h3,h4⟩⟩:=h
 ·omega
 ·injection e with e1 e2 e3
  subst e1
  have hcell:∀i,i<l.length*2→w.cell? ⟨g,i,none⟩=(dvs l)[i]?:=fun i hi=>by
   rw [cob hg,←h4,List.getElem?_take,if_pos hi];simp
  have q:=dvs_get l k hk
  exact ⟨_,_,rfl,hb,hg,(hcell _ oe).trans q.1,(hcell _ oe).trans q.2⟩
theorem own_set_d {w:World} {base b n cap:Nat} {l:List Dot} (h:w.ownsRow base 28 2 (.slice (some ⟨b,0,none⟩) n cap) l.length (dvs l)) {k:Nat} (hk:k<l.length) (d:Dot) :
 ((w.setCell ⟨b,k*2,none⟩ (.int .i64 d.1)).setCell ⟨b,k*2+1,none⟩ (.int .i64 d.2)).ownsRow base 28 2 (.slice (some ⟨b,0,none⟩) n cap) (l.set k d).length (dvs (l.set k d)):=by
 have e:n=l.length:=by obtain ⟨a',c',e⟩:=(Row.of_own h).shape;injection e
 subst e
 have h1:=(h.stored (k*2) (.int .i64 d.1)).1
 have h2:=(h1.stored (k*2+1) (.int .i64 d.2)).1
 rw [dvs_set l k d hk] at h2
 rw [List.length_set];exact h2
theorem block_setCells {b:Nat} {t:TypeId} {f:Nat × Nat}:∀(vs:List Value) (o:Nat) (w:World) (cs:Array Value),w.heap[b]?=some (.cells cs t f)→(w.setCells b o vs).heap[b]?=some (.cells (setMany cs o vs) t f)
 | [],_,_,_,h=>h
 | v::r,o,_,_,h=>block_setCells r (o+1) _ _ (bsc h o v)
theorem setMany_take:∀(vs:List Value) (o:Nat) (cs:Array Value) (k:Nat),k≤o→(setMany cs o vs).toList.take k=cs.toList.take k
 | [],_,_,_,_=>rfl
 | v::r,o,cs,k,h=>by
   rw [setMany,setMany_take r (o+1) _ k oe,Array.toList_setIfInBounds,List.take_set_of_le h]
theorem grownBy_setCells (g:Nat):∀(vs:List Value) (o:Nat) (w:World),w.grownBy (w.setCells g o vs) (some g)
 | [],_,w=>World.grownBy.refl _ _
 | v::r,o,w=>by
   have h1:w.grownBy (w.setCell ⟨g,o,none⟩ v) (some g):=⟨rfl,rfl,rfl,by simp [World.setCell],fun k hk hne=>Below.heap_setCell _ _ _ _ (fun e=>hne (by rw [e]))⟩
   have h2:=grownBy_setCells g r (o+1) (w.setCell ⟨g,o,none⟩ v)
   exact ⟨h2.os.trans h1.os,h2.tape.trans h1.tape,h2.output.trans h1.output,Nat.le_trans h1.size h2.size,fun k hk hne=>(h2.block k (Nat.lt_of_lt_of_le hk h1.size) hne).trans (h1.block k hk hne)⟩
theorem own_cut {w:World} {base g n cap:Nat} {L:List Dot} (h:w.ownsRow base 28 2 (.slice (some ⟨g,0,none⟩) n cap) L.length (dvs L)) {i:Nat} (hi:i≤L.length) (vs:List Value) :
 (w.setCells g (i*2) vs).ownsRow base 28 2 (.slice (some ⟨g,0,none⟩) i cap) (L.take i).length (dvs (L.take i)):=by
 have hlen:(L.take i).length=i:=by rw [List.length_take];omega
 obtain ⟨hl,⟨e,h0⟩|⟨g',cap',cur,e,hb,hg,h1,h2,h3,h4⟩⟩:=h
 ·cases e
 ·cases e
  refine ⟨by rw [dvs_len],.inr ⟨g,cap,_,by rw [hlen],hb,block_setCells vs (i*2) w cur hg,by omega,h2,by rw [size_setMany,h3],?_⟩⟩
  rw [hlen,setMany_take _ _ _ _ (Nat.le_refl _),dvs_take,←h4,List.take_take,Nat.min_eq_left (Nat.mul_le_mul_right 2 hi)]
theorem clear_dots (w:World) (ty:TypeId) (b o n c:Nat) (hn:0<n) (hc:∀j,j<n*2→(w.cell? ⟨b,o+j,none⟩).isSome=true) (hf:∀j,j<n*2→w.frozen? ⟨b,o+j,none⟩=false) :
 (Builtin.clear_ #[30] ty #[.slice (some ⟨b,o,none⟩) n c]).run Tryz.prog w=.ok (.tuple #[]) (w.setCells b o (List.replicate (n*2) (.int .i64 0))):=by
 have hv:∀w,(zeroValue 28).run Tryz.prog w=.ok (.agg #[.int .i64 0,.int .i64 0]) w:=fun w=>by kernel_rfl
 have hzc:(Builtin.zeroCells (Value.agg #[.int .i64 0,.int .i64 0]).cells n).toList=List.replicate (n*2) (.int .i64 0):=by
  simp [Builtin.zeroCells,Value.cells]
  apply List.ext_getElem
  ·simp;try omega
  ·intro i h1 h2
   simp
   rcases Nat.mod_two_eq_zero_or_one i with h|h <;> simp [h]
 have hst:=run_storeCells_cells (P:=Tryz.prog) b o (List.replicate (n*2) (.int .i64 0)) 0 w (by simpa using hc) (by simpa using hf) (by intro v hv';rw [List.eq_of_mem_replicate hv'];rfl)
 simp only [Nat.add_zero] at hst
 obtain ⟨m,rfl⟩ : ∃m,n=m+1:=⟨n-1,by omega⟩
 simp [Builtin.clear_,run_underlying Tryz.underlying30,hv,hzc,hst]
end
section
set_option maxHeartbeats 4000000
set_option maxRecDepth 8000
open Go.RowKit Go.Maps Go.Shelf Go.Sort
def CpP (base:Nat) (v:Value) (l:List Dot) (w:World) (e:Ending) (w' : World):Prop:=∃v',e=.returned v'∧w'.ownsRow base 28 2 v' (compL l).length (dvs (compL l))∧w.grownBy w' v.ownBlock
theorem grown_drewN {w w' : World} {r:Option Nat} (h:w.grownBy w' r) (q:Nat):w.grownBy (w'.drewN q) r:=⟨h.os,h.tape,h.output,h.size,h.block⟩
theorem cp_whole {base:Nat} {v:Value} {l:List Dot} {w:World} (h:w.ownsRow base 28 2 v l.length (dvs l)) (e:compL l=l) (q:Nat):CpP base v l w (.returned v) (w.drewN q) :=
 ⟨v,rfl,by rw [e];exact h,grown_drewN (World.grownBy.refl _ _) q⟩
structure CpI (base:Nat) (l:List Dot) (v:Value) (w:World) (i r:Nat) (L:List Dot) (W:World):Prop where
 lt:i<r
 len:L.length=l.length
 own:W.ownsRow base 28 2 v L.length (dvs L)
 grown:w.grownBy W v.ownBlock
 low:compL (l.take r)=L.take i
 high:∀j,r-1≤j→L.getD j (0,0)=l.getD j (0,0)
theorem CpI.start {base:Nat} {l:List Dot} {v:Value} {w:World} {k:Nat} (h:w.ownsRow base 28 2 v l.length (dvs l)) (h1:1≤k) (hk:k<l.length) (hc:compL (l.take k)=l.take k) (he:l.getD k (0,0)=l.getD (k-1) (0,0)) (q:Nat):CpI base l v w k (k+1) l (w.drewN q) :=
 ⟨by omega,rfl,h,grown_drewN (World.grownBy.refl _ _) q,by rw [compL_same h1 hk he,hc],fun _ _=>rfl⟩
theorem CpI.drewN {base:Nat} {l:List Dot} {v:Value} {w:World} {i r:Nat} {L:List Dot} {W:World} (h:CpI base l v w i r L W) (q:Nat):CpI base l v w i r L (W.drewN q):=⟨h.lt,h.len,h.own,grown_drewN h.grown q,h.low,h.high⟩
theorem CpI.skip {base:Nat} {l:List Dot} {v:Value} {w:World} {i r:Nat} {L:List Dot} {W:World} (h:CpI base l v w i r L W) (hr:r<l.length) (h1:1≤r) (e:l.getD r (0,0)=l.getD (r-1) (0,0)):CpI base l v w i (r+1) L W :=
 ⟨by have:=h.lt;omega,h.len,h.own,h.grown,by rw [compL_same h1 hr e,h.low],fun j hj=>h.high j oe⟩
theorem CpI.keep {base g n cap:Nat} {l:List Dot} {w:World} {i r:Nat} {L:List Dot} {W:World} (h:CpI base l (.slice (some ⟨g,0,none⟩) n cap) w i r L W) (hr:r<l.length) (h1:1≤r) (e:¬l.getD r (0,0)=l.getD (r-1) (0,0)) (d:Dot) (hd:l.getD r (0,0)=d) :
 CpI base l (.slice (some ⟨g,0,none⟩) n cap) w (i+1) (r+1) (L.set i d) ((W.setCell ⟨g,i*2,none⟩ (.int .i64 d.1)).setCell ⟨g,i*2+1,none⟩ (.int .i64 d.2)):=by
 have hlt:=h.lt
 have hlen:=h.len
 have hi:i<L.length:=by omega
 refine ⟨by omega,by rw [List.length_set,hlen],own_set_d h.own hi d,?_,?_,fun j hj=>?_⟩
 ·have hg:=h.grown
  have hb:(Value.slice (some ⟨g,0,none⟩) n cap).ownBlock=some g:=rfl
  rw [hb] at hg ⊢
  have e2:(W.setCell ⟨g,i*2,none⟩ (.int .i64 d.1)).setCell ⟨g,i*2+1,none⟩ (.int .i64 d.2)=W.setCells g (i*2) [.int .i64 d.1,.int .i64 d.2]:=rfl
  rw [e2]
  have h2:=grownBy_setCells g [.int .i64 d.1,.int .i64 d.2] (i*2) W
  exact ⟨h2.os.trans hg.os,h2.tape.trans hg.tape,h2.output.trans hg.output,Nat.le_trans hg.size h2.size,fun k hk hne=>(h2.block k (Nat.lt_of_lt_of_le hk hg.size) hne).trans (hg.block k hk hne)⟩
 ·rw [compL_new h1 hr e,h.low,hd,List.take_set,List.take_succ_eq_append_getElem hi]
  rw [List.set_append_right _ _ (by rw [List.length_take];omega)]
  simp [Nat.min_eq_left (Nat.le_of_lt hi)]
 ·rw [←h.high j oe]
  simp only [List.getD]
  rw [List.getElem?_set_ne oe]
theorem CpI.done {base g n cap:Nat} {l:List Dot} {w:World} {i:Nat} {L:List Dot} {W:World} (h:CpI base l (.slice (some ⟨g,0,none⟩) n cap) w i l.length L W) (vs:List Value) :
 CpP base (.slice (some ⟨g,0,none⟩) n cap) l w (.returned (.slice (some ⟨g,0,none⟩) i cap)) (W.setCells g (i*2) vs):=by
 have hl:=h.low
 rw [List.take_length] at hl
 refine ⟨_,rfl,?_,?_⟩
 ·rw [hl]
  have e:(L.take i).length=i:=by rw [List.length_take,h.len];have:=h.lt;omega
  have:=own_cut h.own (i:=i) (by rw [h.len];exact Nat.le_of_lt h.lt) vs
  exact this
 ·have hg:=h.grown
  have hb:(Value.slice (some ⟨g,0,none⟩) n cap).ownBlock=some g:=rfl
  rw [hb] at hg ⊢
  have h2:=grownBy_setCells g vs (i*2) W
  exact ⟨h2.os.trans hg.os,h2.tape.trans hg.tape,h2.output.trans hg.output,Nat.le_trans hg.size h2.size,fun k hk hne=>(h2.block k (Nat.lt_of_lt_of_le hk hg.size) hne).trans (hg.block k hk hne)⟩
theorem compact_own (base:Nat) (v:Value) (l:List Dot) (w:World) (h:w.ownsRow base 28 2 v l.length (dvs l)) (hl:l.length≤100000) :
 Calls Tryz.prog 205 #[v] w (CpP base v l w):=by
 obtain ⟨a,cap,rfl⟩:=osd h
 have H:=hid h
 have Hw:=hid (fun q (e:compL l=l)=>cp_whole h e q)
 have heq:=dot_eqIn
 by_cases h2:l.length<2
 ·have Hw0:=hid (Hw.out 0 (compL_short h2))
  have h2' : (l.length:Int)<2:=by omega
  clear h
  go_enter Tryz.func205,Tryz.ntmps205
  go_wp2
  go_ret
  exact Hw0.out
 ·have h2' : ¬(l.length:Int)<2:=by omega
  obtain ⟨g,cs,rfl,hbase,hblk,_,_⟩:=own_get_d h (k:=0) oe
  have hcapl:l.length≤cap∧cap≤maxLen:=by
   obtain ⟨_,a',c',e,q1,q2,_⟩:=Row.of_own h
   cases e;exact ⟨q1,q2⟩
  unfold maxLen at hcapl
  have Hone:=hid (compL_one (l:=l) oe)
  clear h hblk
  go_enter Tryz.func205,Tryz.ntmps205
  go_wp2
  go_loopw [3] (fun s3 wr=>∃k n:Nat,1≤k∧k≤l.length∧s3=.int .i64 k∧wr=w.drewN n∧compL (l.take k)=l.take k) (fun s3 _=>l.length-(RowKit.intOf s3).toNat)
  case atStart=>exact ⟨1,0,Nat.le_refl _,by omega,rfl,rfl,Hone.out⟩
  case round =>
   obtain ⟨k,n,hk1,hk,rfl,rfl,hc⟩:=hrel
   obtain ⟨m,rfl⟩ : ∃m,k=m+1:=⟨k-1,by omega⟩
   by_cases hlt:m+1<l.length
   ·obtain ⟨b1,cs1,e1,_,_,x0,x1⟩:=own_get_d H.out (k:=m+1) hlt
    cases e1
    obtain ⟨b2,cs2,e2,_,_,y0,y1⟩:=own_get_d H.out (k:=m) oe
    cases e2
    have hlt' : ((m+1:Nat):Int)<(l.length:Int):=by omega
    have hwr:IntKind.i64.wrap (((m+1:Nat):Int)-1)=(m:Int):=by rw [IntWalk.i64_in _ oe];omega
    have hm:(m:Int)<(l.length:Int):=by omega
    have hwr2:IntKind.i64.wrap (m:Int)=(m:Int):=IntWalk.i64_in _ oe
    have hlt3:(m:Int)+1<(l.length:Int):=by omega
    have hp0:(0:Int)≤(m:Int)+1:=by omega
    have Hstart:=hid (fun e q=>CpI.start H.out (k:=m+1) oe hlt hc e q)
    have Hnext:=hid (fun (e:¬l.getD (m+1) (0,0)=l.getD (m+1-1) (0,0))=>show compL (l.take (m+1+1))=l.take (m+1+1) by rw [compL_new oe hlt e,hc,tsd l (m+1) hlt])
    rw [show m+1-1=m by omega] at Hstart Hnext
    clear hc
    generalize hX:l.getD (m+1) (0,0)=X at *
    generalize hY:l.getD m (0,0)=Y at *
    have HX:=hid hX
    have HY:=hid hY
    clear hX hY
    obtain ⟨X1,X2⟩:=X
    obtain ⟨Y1,Y2⟩:=Y
    dsimp only at x0 x1 y0 y1
    by_cases hxy:X1=Y1∧X2=Y2
    ·obtain ⟨rfl,rfl⟩:=hxy
     have Hs:=hid (fun q=>Hstart.out rfl q)
     clear Hstart Hnext
     go_wp2_with fail
     go_quiet (fail)
     have Hs2:=hid (Hs.out (n+nq))
     clear Hs x0 x1 y0 y1
     have hcm:(m:Int)+1<(cap:Int):=by omega
     have hcm2:m+1<cap:=by omega
     go_wp2_with fail
     generalize hM:((m+1:Nat):Int)=M
     have HM:=hid hM
     clear hM
     go_loopw [3,5] (fun s3 s5 wr=>∃i k L,s3=.int .i64 (i:Nat)∧s5=.int .i64 (k+1:Nat)∧m+1+(k+1)≤l.length∧CpI base l (.slice (some ⟨g,0,none⟩) l.length cap) w i (m+1+(k+1)) L wr) (fun s3 s5 _=>l.length-(RowKit.intOf s5).toNat)
     case atStart=>exact ⟨m+1,0,l,by rw [←HM.out],by go_num,by omega,Hs2.out⟩
     case round =>
      obtain ⟨i,k,L,rfl,rfl,hle,hI⟩:=hrel
      have hilt:=hI.lt
      have hlen:=hI.len
      have HI:=hid hI
      by_cases hr:m+1+(k+1)<l.length
      ·obtain ⟨b1,cs1,e1,_,hblk,x0,x1⟩:=own_get_d hI.own (k:=m+1+(k+1)) oe
       cases e1
       obtain ⟨b2,cs2,e2,_,_,y0,y1⟩:=own_get_d hI.own (k:=m+1+k) oe
       cases e2
       obtain ⟨b3,cs3,e3,_,_,z0,z1⟩:=own_get_d hI.own (k:=i) oe
       cases e3
       rw [hI.high _ oe,show (m+1+(k+1))*2=(m+1)*2+(k+1)*2 by omega] at x0 x1
       rw [hI.high _ oe,show (m+1+k)*2=(m+1)*2+k*2 by omega] at y0 y1
       have Hkeep:=hid (fun (e:¬l.getD (m+1+(k+1)) (0,0)=l.getD (m+1+(k+1)-1) (0,0)) q d hd=>(hI.drewN q).keep hr oe e d hd)
       have Hskip:=hid (fun (e:l.getD (m+1+(k+1)) (0,0)=l.getD (m+1+(k+1)-1) (0,0)) q=>(hI.drewN q).skip hr oe e)
       rw [show m+1+(k+1)-1=m+1+k by omega] at Hkeep Hskip
       generalize hU:l.getD (m+1+(k+1)) (0,0)=U at *
       generalize hV:l.getD (m+1+k) (0,0)=V at *
       generalize L.getD i (0,0)=Z at *
       have HU:=hid hU
       have HV:=hid hV
       have f0:wr.frozen? ⟨g,i*2,none⟩=false:=fob hblk _
       have f1:wr.frozen? ⟨g,i*2+1,none⟩=false:=fob hblk _
       have c1:(k:Int)+1<((l.length-(m+1):Nat):Int):=by omega
       have c2:(k:Int)<((l.length-(m+1):Nat):Int):=by omega
       have c3:IntKind.i64.wrap ((k:Int)+1-1)=(k:Int):=by rw [IntWalk.i64_in _ oe];omega
       have c4:IntKind.i64.wrap (k:Int)=(k:Int):=IntWalk.i64_in _ oe
       have c5:(i:Int)<(l.length:Int):=by omega
       have c6:(0:Int)≤(k:Int)+1:=by omega
       clear hU hV hI hblk
       obtain ⟨U1,U2⟩:=U
       obtain ⟨V1,V2⟩:=V
       obtain ⟨Z1,Z2⟩:=Z
       dsimp only at x0 x1 y0 y1 z0 z1
       by_cases huv:U1=V1∧U2=V2
       ·obtain ⟨rfl,rfl⟩:=huv
        have Hk:=hid (fun q=>Hskip.out rfl q)
        clear Hkeep Hskip
        go_wp2_with fail
        go_quiet (fail)
        go_wp2
        go_roundw
        case rel=>exact ⟨i,k+1,L,rfl,by go_num,by omega,Hk.out _⟩
        case measure=>simp [RowKit.intOf];omega
       ·have e1:(decide (U1=V1) && decide (U2=V2))=false:=by simpa using huv
        have Hk:=hid (fun q=>Hkeep.out (fun e=>huv (by cases e;exact ⟨rfl,rfl⟩)) q (U1,U2) rfl)
        clear Hkeep Hskip huv
        go_wp2_with fail
        go_quiet (fail)
        go_wp2
        go_roundw
        case rel=>exact ⟨i+1,k+1,L.set i (U1,U2),by go_num,by go_num,by omega,Hk.out _⟩
        case measure=>simp [RowKit.intOf];omega
      ·have c1:¬(k:Int)+1<((l.length-(m+1):Nat):Int):=by omega
       have c2:(i:Int)<(l.length:Int):=by omega
       have c3:(i:Int)<(cap:Int):=by omega
       have c4:i<cap:=by omega
       have hend:m+1+(k+1)=l.length:=by omega
       have hcell:∀j,j<l.length*2→(wr.cell? ⟨g,j,none⟩).isSome=true∧wr.frozen? ⟨g,j,none⟩=false:=by
        intro j hj
        have ho:=hI.own
        rw [hlen] at ho
        obtain ⟨_,⟨e,_⟩|⟨g',cap',cur,e,_,hg,q1,q2,q3,q4⟩⟩:=ho
        ·cases e
        ·cases e
         refine ⟨?_,fob hg _⟩
         rw [cob hg]
         have:j<cur.size:=by rw [q3];omega
         simp [this]
       have hcl:∀ty,(Builtin.clear_ #[30] ty #[.slice (some ⟨g,i*2,none⟩) (l.length-i) (cap-i)]).run Tryz.prog wr=.ok (.tuple #[]) (wr.setCells g (i*2) (List.replicate ((l.length-i)*2) (.int .i64 0))) :=
        fun ty=>clear_dots wr ty g (i*2) (l.length-i) (cap-i) oe (fun j hj=>(hcell _ oe).1) (fun j hj=>(hcell _ oe).2)
       rw [hend] at HI
       have Hd:=hid (fun vs=>HI.out.done vs)
       clear hcell hI HI
       go_wp2
       go_ret
       exact Hd.out _
    ·have e1:(decide (X1=Y1) && decide (X2=Y2))=false:=by simpa using hxy
     have Hn:=hid (Hnext.out (fun e=>hxy (by cases e;exact ⟨rfl,rfl⟩)))
     clear Hstart Hnext hxy
     go_wp2_with fail
     go_quiet (fail)
     go_wp2
     go_roundw
     case rel=>exact ⟨m+1+1,_,by omega,by omega,by go_num,rfl,Hn.out⟩
     case measure=>simp [RowKit.intOf];omega
   ·have hlt' : ¬((m+1:Nat):Int)<(l.length:Int):=by omega
    have Hd:=hid (Hw.out n (by rw [List.take_of_length_le oe] at hc;exact hc))
    clear hc
    go_wp2
    go_ret
    exact Hd.out
end
section
set_option maxHeartbeats 1000000
open Go.RowKit Go.Maps Go.Shelf Go.Sort
theorem sort_any (v:Value) (l:List Dot) (w:World) (hr:Dots w v l) (hl:l.length≤100000) :
 Calls Tryz.prog 179 #[v] w fun e w'=>∃v',e=.returned v'∧w'.ownsRow w.heap.size 28 2 v' (dsort l).length (dvs (dsort l))∧Pure w w':=by
 have Hc:=hid (dclone_any v l w hr hl)
 clear hr
 go_enter Tryz.func179,Tryz.ntmps179
 go_wp2_with fail
 refine Hc.out.mono ?_
 rintro e w1 ⟨v1,rfl,hown1,hp1⟩
 have Hs:=hid (sortf_own w.heap.size v1 l w1 hown1 hl)
 have Hp1:=hid hp1
 have Hb1:=hid (fun j (hj:v1.ownBlock=some j)=>(hown1.lt j hj).1)
 clear hp1 hown1 Hc
 go_wp2_with fail
 refine Hs.out.mono ?_
 rintro e w2 ⟨rfl,l2,hperm,hsorted,hown2,hg2⟩
 have Hk:=hid (compact_own w.heap.size v1 l2 w2 hown2 (by rw [hperm.length_eq];exact hl))
 have Hp2:=hid (Hp1.out.grown hg2 Hp1.out.size (fun j hj=>Hb1.out j hj))
 have He:=hid (compL_sort hperm hsorted)
 clear hperm hsorted hown2 hg2 Hs
 go_wp2_with fail
 refine Hk.out.mono ?_
 rintro e w3 ⟨v3,rfl,hown3,hg3⟩
 rw [He.out] at hown3
 have Hown3:=hid hown3
 have Hp3:=hid (Hp2.out.grown hg3 Hp2.out.size (fun j hj=>Hb1.out j hj))
 clear hown3 hg3
 go_wp2
 go_ret
 exact ⟨_,rfl,Hown3.out,Hp3.out⟩
end
section
set_option maxHeartbeats 1000000
open Go.RowKit Go.Maps Go.Shelf Go.Sort
def PredD (g:Nat) (lb:Array Value) (p:Dot→Bool) (S:World→Prop):Prop :=
 ∀(W:World) (d:Dot),S W→Calls Tryz.prog g (#[dv d]++lb) W fun e w'=>e=.returned (.bool (p d))∧Pure W w'
def fidx (l:List Dot) (p:Dot→Bool):Int:=if l.findIdx p<l.length then (l.findIdx p:Nat) else -1
theorem fidx_hit {l:List Dot} {p:Dot→Bool} {k:Nat} (hk:k<l.length) (hn:∀d ∈ l.take k,p d=false) (hp:p (l.getD k (0,0))=true):fidx l p=k:=by
 have e:l.findIdx p=k:=by
  rw [List.findIdx_eq hk]
  refine ⟨by simpa [List.getD,hk] using hp,fun j hj=>?_⟩
  have hm:l[j]'oe ∈ l.take k:=by
   rw [List.mem_take_iff_getElem]
   exact ⟨j,by omega,rfl⟩
  exact hn _ hm
 unfold fidx
 rw [e,if_pos hk]
theorem fidx_none {l:List Dot} {p:Dot→Bool} (hn:∀d ∈ l,p d=false):fidx l p=-1:=by
 unfold fidx
 rw [if_neg]
 rw [List.findIdx_lt_length]
 rintro ⟨d,hd,h⟩
 rw [hn d hd] at h;cases h
def IfP (l:List Dot) (p:Dot→Bool) (w:World) (e:Ending) (w' : World):Prop:=e=.returned (.int .i64 (fidx l p))∧Pure w w'
theorem indexf_any (v:Value) (l:List Dot) (w:World) (hr:Dots w v l) (g:Nat) (lb:Array Value) (p:Dot→Bool) (eg:∀args w,(callFunc g args).run Tryz.prog w=.ok (.enter g args) w)
 (hg:PredD g lb p (Pure w)) :
 Calls Tryz.prog 218 #[v,.func (.func g) #[] lb] w (IfP l p w):=by
 obtain ⟨a,cap,rfl⟩:=hr.shape
 have hll:l.length≤maxLen:=Row.len_le hr
 unfold maxLen at hll
 have Hr:=hid hr
 have Hg:=hid hg
 clear hr hg
 go_enter Tryz.func218,Tryz.ntmps218
 go_wp2
 go_loopw [8] (fun i wr=>∃k:Nat,k≤l.length∧i=.int .i64 k∧(∀d ∈ l.take k,p d=false)∧Pure w wr) (fun i _=>l.length-(RowKit.intOf i).toNat)
 case atStart=>exact ⟨0,Nat.zero_le _,rfl,by simp,Below.refl _ _⟩
 case round =>
  obtain ⟨k,hk,rfl,hno,hp⟩:=hrel
  by_cases hlt:k<l.length
  ·obtain ⟨b,off,rfl,hb,c0,c1⟩:=Dots.get (Row.pure Hr.out hp:Dots wr _ l) hlt
   have hlt' : (k:Int)<(l.length:Int):=by omega
   have Hhit:=hid (fidx_hit (p:=p) hlt hno)
   have Hmiss:Hid (p (l.getD k (0,0))=false→∀d ∈ l.take (k+1),p d=false):=fun h d hd=>by
    rw [tsd l k hlt,List.mem_append,List.mem_singleton] at hd
    rcases hd with hd|rfl
    ·exact hno d hd
    ·exact h
   have Hcall:=hid (Hg.out wr (l.getD k (0,0)) hp)
   have Hp:=hid hp
   clear hno hp hb
   generalize l.getD k (0,0)=z at *
   cases hq:p z with
   | true =>
     rw [hq] at Hcall
     have Hh:=hid (Hhit.out hq)
     clear Hhit Hmiss hq
     obtain ⟨z1,z2⟩:=z
     dsimp only at c0 c1
     unfold dv at Hcall
     dsimp only at Hcall
     go_wp2_with fail
     refine Hcall.out.mono ?_
     rintro e w1 ⟨rfl,hp1⟩
     have Hp1:=hid (Hp.out.then_ hp1)
     clear hp1 c0 c1
     go_wp2
     go_ret
     exact ⟨by rw [Hh.out];rfl,Hp1.out⟩
   | false =>
     rw [hq] at Hcall
     have Hm:=hid (Hmiss.out hq)
     clear Hhit Hmiss hq
     obtain ⟨z1,z2⟩:=z
     dsimp only at c0 c1
     unfold dv at Hcall
     dsimp only at Hcall
     go_wp2_with fail
     refine Hcall.out.mono ?_
     rintro e w1 ⟨rfl,hp1⟩
     have Hp1:=hid (Hp.out.then_ hp1)
     clear hp1 c0 c1
     go_wp2
     go_roundw
     case rel=>exact ⟨k+1,by omega,by go_num,Hm.out,Hp1.out⟩
     case measure=>simp [RowKit.intOf];omega
  ·have hlt' : ¬(k:Int)<(l.length:Int):=by omega
   have Hn:=hid (fidx_none (l:=l) (p:=p) (by rw [List.take_of_length_le oe] at hno;exact hno))
   have Hp:=hid hp
   clear hno hp
   go_wp2
   go_ret
   exact ⟨by rw [Hn.out];rfl,Hp.out⟩
end
section
set_option maxHeartbeats 4000000
set_option maxRecDepth 8000
open Go.RowKit Go.Maps Go.Shelf Go.Sort
theorem grown_trans {a b c:World} {r:Option Nat} (h:a.grownBy b r) (k:b.grownBy c r):a.grownBy c r :=
 ⟨k.os.trans h.os,k.tape.trans h.tape,k.output.trans h.output,Nat.le_trans h.size k.size,fun i hi hne=>(k.block i (Nat.lt_of_lt_of_le hi h.size) hne).trans (h.block i hi hne)⟩
theorem grown_of_pure {a b:World} (r:Option Nat) (h:Pure a b):a.grownBy b r:=⟨h.os,h.tape,h.output,h.size,fun k hk _=>h.block k hk⟩
structure DfI (base:Nat) (l:List Dot) (p:Dot→Bool) (v:Value) (w:World) (i r:Nat) (L:List Dot) (W:World):Prop where
 lt:i<r
 len:L.length=l.length
 own:W.ownsRow base 28 2 v L.length (dvs L)
 grown:w.grownBy W v.ownBlock
 low:(l.take r).filter (fun d=>!p d)=L.take i
 high:∀j,r≤j→L.getD j (0,0)=l.getD j (0,0)
theorem DfI.start {base:Nat} {l:List Dot} {p:Dot→Bool} {v:Value} {w W:World} {k:Nat} (h:W.ownsRow base 28 2 v l.length (dvs l)) (hg:w.grownBy W v.ownBlock) (hk:k<l.length) (hn:∀d ∈ l.take k,p d=false) (hp:p (l.getD k (0,0))=true):DfI base l p v w k (k+1) l W :=
 ⟨by omega,rfl,h,hg,by
  rw [tsd l k hk,List.filter_append,List.filter_eq_self.2 (fun d hd=>by rw [hn d hd];rfl)]
  simp only [List.filter_cons,hp];simp,fun _ _=>rfl⟩
theorem DfI.pure {base:Nat} {l:List Dot} {p:Dot→Bool} {v:Value} {w:World} {i r:Nat} {L:List Dot} {W W' : World} (h:DfI base l p v w i r L W) (hp:Pure W W'):DfI base l p v w i r L W':=⟨h.lt,h.len,own_pure h.own hp,grown_trans h.grown (grown_of_pure _ hp),h.low,h.high⟩
theorem DfI.skip {base:Nat} {l:List Dot} {p:Dot→Bool} {v:Value} {w:World} {i r:Nat} {L:List Dot} {W:World} (h:DfI base l p v w i r L W) (hr:r<l.length) (e:p (l.getD r (0,0))=true):DfI base l p v w i (r+1) L W :=
 ⟨by have:=h.lt;omega,h.len,h.own,h.grown,by rw [tsd l r hr,List.filter_append,h.low];simp only [List.filter_cons,e];simp,fun j hj=>h.high j oe⟩
theorem DfI.keep {base g n cap:Nat} {l:List Dot} {p:Dot→Bool} {w:World} {i r:Nat} {L:List Dot} {W:World} (h:DfI base l p (.slice (some ⟨g,0,none⟩) n cap) w i r L W) (hr:r<l.length) (d:Dot) (hd:l.getD r (0,0)=d) (e:p d=false) :
 DfI base l p (.slice (some ⟨g,0,none⟩) n cap) w (i+1) (r+1) (L.set i d) ((W.setCell ⟨g,i*2,none⟩ (.int .i64 d.1)).setCell ⟨g,i*2+1,none⟩ (.int .i64 d.2)):=by
 have hlt:=h.lt
 have hlen:=h.len
 have hi:i<L.length:=by omega
 refine ⟨by omega,by rw [List.length_set,hlen],own_set_d h.own hi d,?_,?_,fun j hj=>?_⟩
 ·exact grown_trans h.grown (grownBy_setCells g [.int .i64 d.1,.int .i64 d.2] (i*2) W)
 ·rw [tsd l r hr,List.filter_append,h.low,hd,List.take_set,List.take_succ_eq_append_getElem hi]
  rw [List.set_append_right _ _ (by rw [List.length_take];omega)]
  simp [Nat.min_eq_left (Nat.le_of_lt hi),e]
 ·rw [←h.high j oe]
  simp only [List.getD]
  rw [List.getElem?_set_ne oe]
def DfP (base:Nat) (v:Value) (l:List Dot) (p:Dot→Bool) (w:World) (e:Ending) (w' : World):Prop:=∃v',e=.returned v'∧w'.ownsRow base 28 2 v' (l.filter fun d=>!p d).length (dvs (l.filter fun d=>!p d))∧w.grownBy w' v.ownBlock
theorem DfI.done {base g n cap:Nat} {l:List Dot} {p:Dot→Bool} {w:World} {i:Nat} {L:List Dot} {W:World} (h:DfI base l p (.slice (some ⟨g,0,none⟩) n cap) w i l.length L W) (vs:List Value) :
 DfP base (.slice (some ⟨g,0,none⟩) n cap) l p w (.returned (.slice (some ⟨g,0,none⟩) i cap)) (W.setCells g (i*2) vs):=by
 have hl:=h.low
 rw [List.take_length] at hl
 refine ⟨_,rfl,?_,grown_trans h.grown (grownBy_setCells g vs (i*2) W)⟩
 rw [hl]
 exact own_cut h.own (i:=i) (by rw [h.len];exact Nat.le_of_lt h.lt) vs
theorem df_whole {base:Nat} {v:Value} {l:List Dot} {p:Dot→Bool} {w W:World} (h:W.ownsRow base 28 2 v l.length (dvs l)) (hg:w.grownBy W v.ownBlock) (hn:∀d ∈ l,p d=false):DfP base v l p w (.returned v) W :=
 have e:l.filter (fun d=>!p d)=l:=List.filter_eq_self.2 (fun d hd=>by rw [hn d hd];rfl)
 ⟨v,rfl,by rw [e];exact h,hg⟩
theorem fidx_cases (l:List Dot) (p:Dot→Bool):(fidx l p=-1∧∀d ∈ l,p d=false)∨∃k:Nat,fidx l p=k∧k<l.length∧(∀d ∈ l.take k,p d=false)∧p (l.getD k (0,0))=true:=by
 unfold fidx
 split
 ·rename_i h
  refine .inr ⟨_,rfl,h,fun d hd=>?_,?_⟩
  ·rw [List.mem_take_iff_getElem] at hd
   obtain ⟨j,hj,rfl⟩:=hd
   have:=List.not_of_lt_findIdx (p:=p) (xs:=l) (i:=j) oe
   simpa using this
  ·have:=List.findIdx_getElem (p:=p) (xs:=l) (w:=h)
   simpa [List.getD,h] using this
 ·rename_i h
  refine .inl ⟨rfl,fun d hd=>?_⟩
  rw [List.findIdx_lt_length] at h
  by_cases e:p d=true
  ·exact absurd ⟨d,hd,e⟩ h
  ·simpa using e
theorem deletef_own (base:Nat) (v:Value) (l:List Dot) (w:World) (h:w.ownsRow base 28 2 v l.length (dvs l)) (hl:l.length≤100000) (g:Nat) (lb:Array Value) (p:Dot→Bool) (eg:∀args w,(callFunc g args).run Tryz.prog w=.ok (.enter g args) w)
 (hg:PredD g lb p (fun W=>w.grownBy W v.ownBlock)) :
 Calls Tryz.prog 208 #[v,.func (.func g) #[] lb] w (DfP base v l p w):=by
 obtain ⟨a,cap,rfl⟩:=osd h
 have Hi:=hid (indexf_any _ l w (Row.of_own h) g lb p eg (fun W d hW=>hg W d (grown_of_pure _ hW)))
 have H:=hid h
 have Hg:=hid hg
 clear h hg
 rcases fidx_cases l p with ⟨e,hn⟩|⟨m,e,hlt,hn,hp⟩
 ·have Hw:=hid (fun W (hW:Pure w W)=>df_whole (own_pure H.out hW) (grown_of_pure (Value.slice a l.length cap).ownBlock hW) hn)
  unfold IfP at Hi
  rw [e] at Hi
  clear hn e
  go_enter Tryz.func208,Tryz.ntmps208
  go_wp2_with fail
  refine Hi.out.mono ?_
  rintro e w1 ⟨rfl,hp1⟩
  have Hw1:=hid (Hw.out w1 hp1)
  clear hp1
  go_wp2
  go_ret
  exact Hw1.out
 ·obtain ⟨b,cs,rfl,hbase,hblk,_,_⟩:=own_get_d H.out (k:=m) hlt
  have hcapl:l.length≤cap∧cap≤maxLen:=by
   obtain ⟨_,a',c',e,q1,q2,_⟩:=Row.of_own H.out
   cases e;exact ⟨q1,q2⟩
  unfold maxLen at hcapl
  have Hst:=hid (fun W (hW:Pure w W)=>DfI.start (own_pure H.out hW) (grown_of_pure (Value.slice (some ⟨b,0,none⟩) l.length cap).ownBlock hW) hlt hn hp)
  unfold IfP at Hi
  rw [e] at Hi
  have hm1:((m:Int) == -1)=false:=by simp
  clear hn e hp hblk
  go_enter Tryz.func208,Tryz.ntmps208
  go_wp2_with fail
  refine Hi.out.mono ?_
  rintro e w1 ⟨rfl,hp1⟩
  have Hst1:=hid (Hst.out w1 hp1)
  clear hp1 Hst Hi
  go_wp2_with fail
  generalize hM:(m:Int)=M
  have HM:=hid hM
  clear hM
  go_loopw [5,6,7] (fun s5 s6 _ wr=>∃(i r:Nat) (L:List Dot),s5=.int .i64 i∧s6=.int .i64 r∧r≤l.length∧DfI base l p (.slice (some ⟨b,0,none⟩) l.length cap) w i r L wr) (fun _ s6 _ _=>l.length-(RowKit.intOf s6).toNat)
  case atStart=>exact ⟨m,m+1,l,by rw [←HM.out],by rw [←HM.out];first|rfl|go_num,by omega,Hst1.out⟩
  case round =>
   obtain ⟨i,r,L,rfl,rfl,hle,hI⟩:=hrel
   have hilt:=hI.lt
   have hlen:=hI.len
   by_cases hr:r<l.length
   ·obtain ⟨b1,cs1,e1,_,hblk,x0,x1⟩:=own_get_d hI.own (k:=r) oe
    cases e1
    obtain ⟨b3,cs3,e3,_,_,z0,z1⟩:=own_get_d hI.own (k:=i) oe
    cases e3
    rw [hI.high _ oe] at x0 x1
    have c1:(r:Int)<(l.length:Int):=by omega
    have c5:(i:Int)<(l.length:Int):=by omega
    have Hkeep:=hid (fun W (hW:Pure wr W) d hd e=>(hI.pure hW).keep hr d hd e)
    have Hskip:=hid (fun W (hW:Pure wr W) e=>(hI.pure hW).skip hr e)
    have Hcall:=hid (fun W (hW:Pure wr W) d=>Hg.out W d (grown_trans hI.grown (grown_of_pure _ hW)))
    have Hblk:=hid hblk
    generalize hU:l.getD r (0,0)=U at *
    generalize L.getD i (0,0)=Z at *
    have Hkeep2:=hid (fun W (hW:Pure wr W) e=>Hkeep.out W hW U rfl e)
    have Hcall2:=hid (fun W (hW:Pure wr W)=>Hcall.out W hW U)
    clear Hkeep Hcall hblk hU hI
    obtain ⟨U1,U2⟩:=U
    obtain ⟨Z1,Z2⟩:=Z
    dsimp only at x0 x1 z0 z1
    obtain ⟨wz,hwz⟩:=qe (wr.alloc (.cells #[.int .i64 U1,.int .i64 U2] 28))
    have Hpz:=qh (Pure wr wz) (by rw [hwz];exact qp)
    have k0:wz.cell? ⟨wr.heap.size,0,none⟩=some (.int .i64 U1):=by rw [hwz,World.cell?_alloc_new];simp
    have k1:wz.cell? ⟨wr.heap.size,1,none⟩=some (.int .i64 U2):=by rw [hwz,World.cell?_alloc_new];simp
    have hkb:wr.heap.size<wz.heap.size:=by rw [hwz];simp
    have Hcc:=hid (Hcall2.out wz Hpz.out)
    clear Hcall2
    unfold dv at Hcc
    dsimp only at Hcc
    cases hq:p (U1,U2) with
    | true =>
      rw [hq] at Hcc
      have Hq:=hid hq
      clear hq
      go_wp2_with fail
      rw [←hwz]
      clear hwz
      refine Hcc.out.mono ?_
      rintro e w2 ⟨rfl,hp2⟩
      have Hsk:=hid (Hskip.out w2 (Hpz.out.then_ hp2) Hq.out)
      clear hp2 x0 x1 z0 z1 k0 k1
      go_wp2
      go_roundw
      case rel=>exact ⟨i,r+1,L,rfl,by go_num,by omega,Hsk.out⟩
      case measure=>simp [RowKit.intOf];omega
    | false =>
      rw [hq] at Hcc
      have Hq:=hid hq
      clear hq
      go_wp2_with fail
      rw [←hwz]
      clear hwz
      refine Hcc.out.mono ?_
      rintro e w2 ⟨rfl,hp2⟩
      have hp3:=Hpz.out.then_ hp2
      have hb2:=(hp3.block _ (lob Hblk.out)).trans Hblk.out
      have f0:w2.frozen? ⟨b,i*2,none⟩=false:=fob hb2 _
      have f1:w2.frozen? ⟨b,i*2+1,none⟩=false:=fob hb2 _
      have y0:w2.cell? ⟨b,i*2,none⟩=some (.int .i64 Z1):=(hp3.cell (p:=⟨b,i*2,none⟩) (lob Hblk.out)).trans z0
      have y1:w2.cell? ⟨b,i*2+1,none⟩=some (.int .i64 Z2):=(hp3.cell (p:=⟨b,i*2+1,none⟩) (lob Hblk.out)).trans z1
      have m0:w2.cell? ⟨wr.heap.size,0,none⟩=some (.int .i64 U1):=(hp2.cell (p:=⟨wr.heap.size,0,none⟩) hkb).trans k0
      have m1:w2.cell? ⟨wr.heap.size,1,none⟩=some (.int .i64 U2):=(hp2.cell (p:=⟨wr.heap.size,1,none⟩) hkb).trans k1
      have Hsk:=hid (Hkeep2.out w2 hp3 Hq.out)
      clear hp2 hp3 hb2 x0 x1 z0 z1 k0 k1
      go_wp2
      go_roundw
      case rel=>exact ⟨i+1,r+1,L.set i (U1,U2),by go_num,by go_num,by omega,Hsk.out⟩
      case measure=>simp [RowKit.intOf];omega
   ·have c1:¬(r:Int)<(l.length:Int):=by omega
    have c2:(i:Int)<(l.length:Int):=by omega
    have c3:(i:Int)<(cap:Int):=by omega
    have c4:i<cap:=by omega
    have hend:r=l.length:=by omega
    have hcell:∀j,j<l.length*2→(wr.cell? ⟨b,j,none⟩).isSome=true∧wr.frozen? ⟨b,j,none⟩=false:=by
     intro j hj
     have ho:=hI.own
     rw [hlen] at ho
     obtain ⟨_,⟨e,_⟩|⟨g',cap',cur,e,_,hg,q1,q2,q3,q4⟩⟩:=ho
     ·cases e
     ·cases e
      refine ⟨?_,fob hg _⟩
      rw [cob hg]
      have:j<cur.size:=by rw [q3];omega
      simp [this]
    have hcl:∀ty,(Builtin.clear_ #[30] ty #[.slice (some ⟨b,i*2,none⟩) (l.length-i) (cap-i)]).run Tryz.prog wr=.ok (.tuple #[]) (wr.setCells b (i*2) (List.replicate ((l.length-i)*2) (.int .i64 0))) :=
     fun ty=>clear_dots wr ty b (i*2) (l.length-i) (cap-i) oe (fun j hj=>(hcell _ oe).1) (fun j hj=>(hcell _ oe).2)
    subst hend
    have Hd:=hid (fun vs=>hI.done vs)
    clear hcell hI
    go_wp2
    go_ret
    exact Hd.out _
end
section
set_option maxHeartbeats 1000000
open Go.RowKit Go.Maps Go.Shelf Go.Sort
def onode (l:List Dot) (node:Int):List Dot:=l.filter fun d=>d.1 == node
theorem of1_any (d:Dot) (bn:Nat) (node:Int) (w:World) (hc:w.cell? ⟨bn,0,none⟩=some (.int .i64 node)) :
 Calls Tryz.prog 207 #[dv d,.pointer (some ⟨bn,0,none⟩)] w fun e w'=>e=.returned (.bool (d.1 != node))∧Pure w w':=by
 obtain ⟨x,y⟩:=d
 have hp:=qh (∀o,Pure w (w.alloc o)) (fun o=>(Below.refl _ _).alloc (Nat.le_refl _) o)
 have hc2:∀o,(w.alloc o).cell? ⟨bn,0,none⟩=some (.int .i64 node):=fun o=>(hp.out o).cell (p:=⟨bn,0,none⟩) (World.block_lt_of_cell? w _ hc) |>.trans hc
 unfold dv
 dsimp only
 go_enter Tryz.func207,Tryz.ntmps207
 go_wp2
 go_ret
 exact ⟨rfl,hp.out _⟩
theorem of_any (v:Value) (l:List Dot) (node:Int) (w:World) (hr:Dots w v l) (hl:l.length≤100000) :
 Calls Tryz.prog 184 #[v,.int .i64 node] w fun e w'=>∃v',e=.returned v'∧w'.ownsRow w.heap.size 28 2 v' (onode l node).length (dvs (onode l node))∧Pure w w':=by
 obtain ⟨a,cap,rfl⟩:=hr.shape
 have hcapl:l.length≤cap∧cap≤maxLen:=by
  obtain ⟨_,a',c',e,q1,q2,_⟩:=hr
  cases e;exact ⟨q1,q2⟩
 unfold maxLen at hcapl
 obtain ⟨wz,hwz⟩:=qe (w.alloc (.cells #[.int .i64 node] 3))
 have Hpz:=qh (Pure w wz) (by rw [hwz];exact qp)
 have hkb:wz.heap.size=w.heap.size+1:=by rw [hwz];simp
 have k0:wz.cell? ⟨w.heap.size,0,none⟩=some (.int .i64 node):=by rw [hwz,World.cell?_alloc_new];simp
 have hrow:Dots wz (.slice a l.length l.length) l:=by
  have hh:=Row.pure hr Hpz.out
  obtain ⟨hlen,a',c',e,q1,q2,q3⟩:=hh
  cases e
  refine ⟨hlen,a,l.length,rfl,Nat.le_refl _,Nat.le_trans q1 q2,?_⟩
  rcases q3 with q3|q3
  ·exact .inl oe
  ·exact .inr q3
 have Hc:=hid (dclone_any _ l wz hrow hl)
 clear hr hrow
 go_enter Tryz.func184,Tryz.ntmps184
 go_wp2_with fail
 rw [←hwz]
 clear hwz
 refine Hc.out.mono ?_
 rintro e w1 ⟨v1,rfl,hown,hp1⟩
 have k1:w1.cell? ⟨w.heap.size,0,none⟩=some (.int .i64 node):=(hp1.cell (p:=⟨w.heap.size,0,none⟩) (by show w.heap.size<_;omega)).trans k0
 have hsz:=hp1.size
 have Hd:=hid (deletef_own wz.heap.size v1 l w1 hown hl 207 #[.pointer (some ⟨w.heap.size,0,none⟩)] (fun d=>d.1 != node) (enters_of Tryz.func207 qk rfl)
  (fun W d hW=>of1_any d w.heap.size node W ((World.cell?_of_block (w:=w1) (hW.block w.heap.size oe (fun e=>by have:=(hown.lt w.heap.size e.symm).1;omega))).trans k1)))
 have Hp1:=hid hp1
 have Hb1:=hid (fun j (hj:v1.ownBlock=some j)=>(hown.lt j hj).1)
 have Hkb:=hid hkb
 clear hown hp1 k0 k1 hkb Hc
 go_wp2_with fail
 refine Hd.out.mono ?_
 rintro e w2 ⟨v2,rfl,hown2,hg2⟩
 have hf:(l.filter fun d=>!(d.1 != node))=onode l node:=by unfold onode;congr 1;funext d;simp;rfl
 rw [hf] at hown2
 have Hown2:=hid (own_mono hown2 (show w.heap.size≤wz.heap.size by rw [Hkb.out];omega))
 have Hp2:=hid (Hpz.out.then_ (Hp1.out.grown hg2 Hp1.out.size (fun j hj=>Hb1.out j hj)))
 clear hown2 hg2 hf
 go_wp2
 go_ret
 exact ⟨_,rfl,Hown2.out,Hp2.out⟩
end
section
set_option maxHeartbeats 4000000
set_option maxRecDepth 8000
open Go.RowKit Go.Maps Go.MapKept
theorem zeroCells_size2 (n:Nat):(Builtin.zeroCells (Value.agg #[.int .i64 0,.int .i64 0]).cells n).size=n*2:=by simp [Builtin.zeroCells,Value.cells];try omega
theorem growd_any (n:Nat) (w:World) (hn:n≤1000000) :
 Calls Tryz.prog 206 #[.slice none 0 0,.int .i64 n] w fun e w'=>∃v,e=.returned v∧w'.ownsRow w.heap.size 28 2 v 0 []∧Pure w w':=by
 obtain ⟨i0,hi,hz0,hz1,hz2⟩:=ipt infoDot
 rcases Nat.eq_zero_or_pos n with rfl|h
 ·refine (Any8.slices_Grow_room Tryz.growD none 0 0 0 w oe oe oe oe).mono ?_
  rintro e w' ⟨rfl,rfl⟩
  exact ⟨_,rfl,World.ownsRow_nil _ _ _ _,Below.refl _ _⟩
 ·refine (Any8.slices_Grow_grow Tryz.growD i0 (.agg #[.int .i64 0,.int .i64 0]) hi hz0 (by rw [hz1];decide) none 0 0 n [] w oe oe (by rw [hz2];omega) oe qb (fun _=>rfl) (fun a h=>by cases h)).mono ?_
  rintro e w' ⟨rfl,rfl⟩
  refine ⟨_,rfl,?_,qv.alloc (Nat.le_refl _) _⟩
  have hle:=grownCap_ge w (0+n) 0 (Tryz.growD_ren.t 25)
  refine World.ownsRow_made w.drew _ _ (Nat.le_refl _) (grownCap_le_maxLen w _ _ _ (by unfold maxLen;omega)) ?_
  rw [Array.size_append,Array.size_append,zeroCells_size2,zeroCells_size2]
  show 0+(0+n-0)*2+(grownCap w (0+n) 0 (Tryz.growD_ren.t 25)-(0+n))*2=grownCap w (0+n) 0 (Tryz.growD_ren.t 25)*2
  omega
def catd (l1 l2:List Dot) (k:Nat):List Dot:=if k=0 then [] else if k=1 then l1 else l1++l2
theorem concatd_any (bb cp:Nat) (v1 v2:Value) (l1 l2:List Dot) (w:World) (c1:w.cell? ⟨bb,0,none⟩=some v1) (c2:w.cell? ⟨bb,1,none⟩=some v2) (h1:Dots w v1 l1) (h2:Dots w v2 l2) (hl1:l1.length≤100000) (hl2:l2.length≤100000) (hbb:bb<w.heap.size) :
 Calls Tryz.prog 180 #[.slice (some ⟨bb,0,none⟩) 2 cp] w fun e w'=>∃v',e=.returned v'∧w'.ownsRow w.heap.size 28 2 v' (l1++l2).length (dvs (l1++l2))∧Pure w w':=by
 obtain ⟨i0,hi,hz0,hz1,hz2⟩:=ipt infoDot
 obtain ⟨a1,q1,rfl⟩:=h1.shape
 obtain ⟨a2,q2,rfl⟩:=h2.shape
 have H1:=hid h1
 have H2:=hid h2
 have hC:=hid (fun W (hW:Pure w W)=>(show W.cell? ⟨bb,0,none⟩=some (.slice a1 l1.length q1)∧W.cell? ⟨bb,1,none⟩=some (.slice a2 l2.length q2) from ⟨(hW.cell (p:=⟨bb,0,none⟩) hbb).trans c1,(hW.cell (p:=⟨bb,1,none⟩) hbb).trans c2⟩))
 have Hg:=hid (growd_any (l1.length+l2.length) w oe)
 clear h1 h2 hbb
 go_enter Tryz.func180,Tryz.ntmps180
 go_wp2
 go_loop [3,5,11] (fun s _ i=>(i=.int .i64 0∧s=.int .i64 0)∨(i=.int .i64 1∧s=.int .i64 (l1.length:Int))∨(i=.int .i64 2∧s=.int .i64 ((l1.length+l2.length:Nat):Int))) (fun _ _ i=>2-(RowKit.intOf i).toNat)
 case atStart=>exact .inl ⟨rfl,rfl⟩
 case round =>
  rcases hrel with ⟨rfl,rfl⟩|⟨rfl,rfl⟩|⟨rfl,rfl⟩
  ·have hs:¬(l1.length:Int)<0:=by omega
   go_wp2
   go_round
   case rel=>exact .inr (.inl ⟨rfl,rfl⟩)
   case measure=>simp [RowKit.intOf]
  ·have hs:¬((l1.length:Int)+(l2.length:Int))<0:=by omega
   go_wp2
   go_round
   case rel=>exact .inr (.inr ⟨rfl,by simp⟩)
   case measure=>simp [RowKit.intOf]
  ·go_wp2_with fail
   refine Hg.out.mono ?_
   rintro e w1 ⟨v1,rfl,hown,hp⟩
   have Hown:=hid hown
   have Hp:=hid hp
   obtain ⟨a3,q3,rfl⟩:=osd hown
   clear hown hp c1 c2
   go_wp2
   go_loopw [6,8,27] (fun o _ i wr=>∃(k:Nat),k≤2∧i=.int .i64 k∧wr.ownsRow w.heap.size 28 2 o (catd l1 l2 k).length (dvs (catd l1 l2 k))∧Pure w wr) (fun _ _ i _=>2-(RowKit.intOf i).toNat)
   case atStart=>exact ⟨0,by omega,rfl,Hown.out,Hp.out⟩
   case round =>
    obtain ⟨k,hk,rfl,hown,hp⟩:=hrel
    obtain ⟨c1,c2⟩:=hC.out wr hp
    have Hp:=hid hp
    by_cases h0:k=0
    ·subst h0
     have Hown:=hid hown
     obtain ⟨a4,q4,rfl⟩:=osd hown
     clear hown hp
     go_wp2_with (at_builtin;refine wlar rfl _ _ 30 rfl w.heap.size 28 i0 (.agg #[.int .i64 0,.int .i64 0]) 2 16 Tryz.underlying30 hi hz0 hz1 hz2 rfl qd qd (.slice a4 0 q4) 0 [] rfl Hown.out _ l1.length (dvs l1) rfl (Row.pure H1.out Hp.out) (fun u hu=>dvs_one _ u hu) oe Hp.out.size ?_)
     intro v3 w3 hown3 hg3
     have Hown3:=hid hown3
     have Hp3:=hid (Hp.out.grown hg3 Hp.out.size (fun k hk=>(Hown.out.lt k hk).1))
     obtain ⟨a5,q5,rfl⟩:=osd hown3
     clear hown3 hg3
     go_wp2
     go_roundw
     case rel=>exact ⟨1,by omega,rfl,by simpa [catd,dvs_append] using Hown3.out,Hp3.out⟩
     case measure=>simp [RowKit.intOf]
    ·by_cases h1:k=1
     ·subst h1
      have Hown:=qh (wr.ownsRow w.heap.size 28 2 u6 l1.length (dvs l1)) (hown)
      obtain ⟨a4,q4,rfl⟩:=osd hown
      clear hown hp
      go_wp2_with (at_builtin;refine wlar rfl _ _ 30 rfl w.heap.size 28 i0 (.agg #[.int .i64 0,.int .i64 0]) 2 16 Tryz.underlying30 hi hz0 hz1 hz2 rfl qd qd (.slice a4 l1.length q4) l1.length (dvs l1) rfl Hown.out _ l2.length (dvs l2) rfl (Row.pure H2.out Hp.out) (fun u hu=>dvs_one _ u hu) oe Hp.out.size ?_)
      intro v3 w3 hown3 hg3
      have Hown3:=hid hown3
      have Hp3:=hid (Hp.out.grown hg3 Hp.out.size (fun k hk=>(Hown.out.lt k hk).1))
      obtain ⟨a5,q5,rfl⟩:=osd hown3
      clear hown3 hg3
      go_wp2
      go_roundw
      case rel=>exact ⟨2,by omega,rfl,by simpa [catd,dvs_append] using Hown3.out,Hp3.out⟩
      case measure=>simp [RowKit.intOf]
     ·obtain rfl:k=2:=by omega
      have Hown:=qh (wr.ownsRow w.heap.size 28 2 u6 (l1++l2).length (dvs (l1++l2))) (hown)
      obtain ⟨a4,q4,rfl⟩:=osd Hown.out
      clear hown hp
      go_wp2
      go_ret
      exact ⟨_,rfl,Hown.out,Hp.out⟩
end
end Go.Proofs.YtdlpnhfgjficgaaGreat
