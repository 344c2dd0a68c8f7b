import Derived.Test.YtdlpnhfgjficgaaGreatMJm
namespace Go.Proofs.YtdlpnhfgjficgaaGreat
section
open Go.RowKit Go.Maps
abbrev Tag:=List UInt8 × Int
def t0:Tag:=([],0)
def TL (a b:List UInt8):Prop:=tlt a b=true
instance:∀a b,Decidable (TL a b):=fun a b=>inferInstanceAs (Decidable (tlt a b=true))
theorem TL.irr (a:List UInt8):¬TL a a:=by unfold TL;rw [tlt_irrefl];simp
theorem TL.tr (a b c:List UInt8) (h:TL a b) (k:TL b c):TL a c:=tlt_trans a b c h k
theorem TL.tot (a b:List UInt8) (hn:a≠b) (h:¬TL a b):TL b a:=by
 unfold TL at *
 cases e:tlt b a with
 | true=>rfl
 | false=>exact absurd (tlt_total a b (by simpa using h) e) hn
abbrev TR (l:List Tag):Prop:=KS (fun t:Tag=>t.1) TL l
abbrev tget (l:List Tag) (s:List UInt8):Option Tag:=kget (fun t:Tag=>t.1) l s
def tnum (l:List Tag) (s:List UInt8):Int:=match tget l s with
 | some t=>t.2
 | none=>0
def tmay (t:Tag):Bool:=decide (1≤t.1.length) && decide (t.1.length≤40) && decide (1≤t.2) && decide (t.2≤1048576)
def tat (l:List Tag) (k:Nat):Bool:=tmay (l.getD k t0) && (decide (k=0) || tlt (l.getD (k-1) t0).1 (l.getD k t0).1)
def tchk (l:List Tag):Bool:=decide (l.length≤100) && allB l.length (tat l)
structure TV (l:List Tag):Prop where
 n:l.length≤100
 r:TR l
 may:∀t ∈ l,tmay t=true
theorem tchk_iff {l:List Tag}:tchk l=true↔TV l:=by
 unfold tchk
 rw [Bool.and_eq_true,decide_eq_true_eq,allB_iff]
 constructor
 ·rintro ⟨h1,h2⟩
  have k2:∀k,k<l.length→tmay (l.getD k t0)=true∧(k=0∨TL (l.getD (k-1) t0).1 (l.getD k t0).1):=fun k hk=>by
   have:=h2 k hk
   unfold tat at this
   rw [Bool.and_eq_true,Bool.or_eq_true,decide_eq_true_eq] at this
   exact this
  refine ⟨h1,pw_of_adj (fun x y:Tag=>TL x.1 y.1) (fun _ _ _=>TL.tr _ _ _) t0 l (fun k hk=>(k2 k hk).2),fun t ht=>?_⟩
  obtain ⟨k,hk,rfl⟩:=get_mem (z:=t0) ht
  exact (k2 k hk).1
 ·intro h
  refine ⟨h.n,fun k hk=>?_⟩
  unfold tat
  rw [Bool.and_eq_true,Bool.or_eq_true,decide_eq_true_eq]
  exact ⟨h.may _ (mem_of_get hk),adj_of_pw (fun x y:Tag=>TL x.1 y.1) t0 h.r hk⟩
theorem TV.nil:TV []:=⟨by simp,KS.nil,by simp⟩
def rdTag (s:RS):Tag × RS:=(((rdX 100 s).1,(rdInt 1048576 (rdX 100 s).2).1),(rdInt 1048576 (rdX 100 s).2).2)
def rdTags (s:RS):List Tag × RS :=
 match rdItems rdTag (rdInt 100 s).1.toNat [] (rdInt 100 s).2 with
 | (_,none)=>([],none)
 | (l,some r)=>if tchk l then (l,some r) else ([],none)
def tagB (t:Tag):List UInt8:=textB t.1++num t.2.toNat
def tagsB (l:List Tag):List UInt8:=num l.length++l.flatMap tagB
theorem rdTag_bytes {t:Tag} (h:tmay t=true) (r:List UInt8):rdTag (some (tagB t++r))=(t,some r):=by
 unfold tmay at h
 simp only [Bool.and_eq_true,decide_eq_true_eq] at h
 obtain ⟨⟨⟨h1,h2⟩,h3⟩,h4⟩:=h
 unfold rdTag tagB
 rw [List.append_assoc,rdText_text _ t.1 oe oe]
 dsimp only
 rw [rdInt_num _ t.2.toNat oe oe,Int.toNat_of_nonneg oe]
theorem rdTags_bytes {l:List Tag} (h:TV l) (r:List UInt8):rdTags (some (tagsB l++r))=(l,some r):=by
 have hn:=h.n
 unfold rdTags tagsB
 rw [List.append_assoc,rdInt_num _ l.length oe oe]
 dsimp only
 rw [Int.toNat_natCast,rdItems_all rdTag tagB l [] r (fun t ht r=>rdTag_bytes (h.may t ht) r)]
 dsimp only
 rw [List.nil_append,if_pos (tchk_iff.2 h)]
theorem rdTags_ok (s:RS):TV (rdTags s).1:=by
 unfold rdTags
 split
 ·exact TV.nil
 ·split
  ·rename_i h;exact tchk_iff.1 h
  ·exact TV.nil
theorem tmay_n {t:Tag} (h:tmay t=true):1≤t.2∧t.2≤1048576:=by
 unfold tmay at h
 simp only [Bool.and_eq_true,decide_eq_true_eq] at h
 exact ⟨h.1.2,h.2⟩
def tmrg:List Tag→List Tag→List Tag
 | [],b=>b
 | x::a,[]=>x::a
 | x::a,y::b=>if tlt x.1 y.1 then x::tmrg a (y::b) else if x.1≠y.1 then y::tmrg (x::a) b else (x.1,max x.2 y.2)::tmrg a b
termination_by a b=>a.length+b.length
def tof (a b:Option Tag):Option Tag:=match a,b with
 | some x,some y=>some (x.1,max x.2 y.2)
 | some x,none=>some x
 | none,some y=>some y
 | none,none=>none
theorem tmrg_nil (a:List Tag):tmrg a []=a:=by cases a <;> rw [tmrg]
theorem tmrg_from (a b:List Tag):∀t ∈ tmrg a b,∃u,(u ∈ a∨u ∈ b)∧u.1=t.1:=by
 fun_induction tmrg a b with
 | case1 b=>exact fun t ht=>⟨t,.inr ht,rfl⟩
 | case2 x a=>exact fun t ht=>⟨t,.inl ht,rfl⟩
 | case3 x a y b h ih =>
   intro t ht
   rcases List.mem_cons.1 ht with rfl|ht
   ·exact ⟨t,.inl qb,rfl⟩
   ·obtain ⟨u,hu,e⟩:=ih t ht
    exact ⟨u,hu.imp (List.mem_cons_of_mem _) (fun h=>h),e⟩
 | case4 x a y b h h2 ih =>
   intro t ht
   rcases List.mem_cons.1 ht with rfl|ht
   ·exact ⟨t,.inr qb,rfl⟩
   ·obtain ⟨u,hu,e⟩:=ih t ht
    exact ⟨u,hu.imp (fun h=>h) (List.mem_cons_of_mem _),e⟩
 | case5 x a y b h h2 ih =>
   intro t ht
   rcases List.mem_cons.1 ht with rfl|ht
   ·exact ⟨x,.inl qb,rfl⟩
   ·obtain ⟨u,hu,e⟩:=ih t ht
    exact ⟨u,hu.imp (List.mem_cons_of_mem _) (List.mem_cons_of_mem _),e⟩
theorem tmrg_rise (a b:List Tag) (ha:TR a) (hb:TR b):TR (tmrg a b):=by
 fun_induction tmrg a b with
 | case1 b=>exact hb
 | case2 x a=>exact ha
 | case3 x a y b h ih =>
   obtain ⟨p1,p2⟩:=List.pairwise_cons.1 ha
   obtain ⟨q1,q2⟩:=List.pairwise_cons.1 hb
   refine List.pairwise_cons.2 ⟨fun t ht=>?_,ih p2 hb⟩
   obtain ⟨u,hu,e⟩:=tmrg_from _ _ t ht
   dsimp only
   rw [←e]
   rcases hu with hu|hu
   ·exact p1 u hu
   ·rcases List.mem_cons.1 hu with rfl|hu
    ·exact h
    ·exact TL.tr _ _ _ h (q1 u hu)
 | case4 x a y b h h2 ih =>
   obtain ⟨p1,p2⟩:=List.pairwise_cons.1 ha
   obtain ⟨q1,q2⟩:=List.pairwise_cons.1 hb
   have hyx:TL y.1 x.1:=TL.tot _ _ h2 h
   refine List.pairwise_cons.2 ⟨fun t ht=>?_,ih ha q2⟩
   obtain ⟨u,hu,e⟩:=tmrg_from _ _ t ht
   dsimp only
   rw [←e]
   rcases hu with hu|hu
   ·rcases List.mem_cons.1 hu with rfl|hu
    ·exact hyx
    ·exact TL.tr _ _ _ hyx (p1 u hu)
   ·exact q1 u hu
 | case5 x a y b h h2 ih =>
   obtain ⟨p1,p2⟩:=List.pairwise_cons.1 ha
   obtain ⟨q1,q2⟩:=List.pairwise_cons.1 hb
   have hxy:x.1=y.1:=Classical.byContradiction h2
   refine List.pairwise_cons.2 ⟨fun t ht=>?_,ih p2 q2⟩
   obtain ⟨u,hu,e⟩:=tmrg_from _ _ t ht
   dsimp only
   rw [←e]
   rcases hu with hu|hu
   ·exact p1 u hu
   ·rw [hxy];exact q1 u hu
theorem tget_above {l:List Tag} {s:List UInt8} (h:∀t ∈ l,TL s t.1):tget l s=none :=
 kget_none.2 fun t ht e=>TL.irr s (by have:=h t ht;rw [e] at this;exact this)
theorem tmrg_get (a b:List Tag) (ha:TR a) (hb:TR b) (s:List UInt8):tget (tmrg a b) s=tof (tget a s) (tget b s):=by
 fun_induction tmrg a b with
 | case1 b =>
   show tget b s=tof none (tget b s)
   cases tget b s <;> rfl
 | case2 x a =>
   show _=tof _ none
   cases tget (x::a) s <;> rfl
 | case3 x a y b h ih =>
   obtain ⟨p1,p2⟩:=List.pairwise_cons.1 ha
   obtain ⟨q1,q2⟩:=List.pairwise_cons.1 hb
   show kget _ _ _=_
   rw [kget_cons,show tget (x::a) s=if x.1=s then some x else tget a s from kget_cons _ _ _]
   by_cases hs:x.1=s
   ·rw [if_pos hs,if_pos hs,←hs,tget_above (l:=y::b) (s:=x.1) (fun t ht=>by
     rcases List.mem_cons.1 ht with rfl|ht
     ·exact h
     ·exact TL.tr _ _ _ h (q1 t ht))]
    rfl
   ·rw [if_neg hs,if_neg hs];exact ih p2 hb
 | case4 x a y b h h2 ih =>
   obtain ⟨p1,p2⟩:=List.pairwise_cons.1 ha
   obtain ⟨q1,q2⟩:=List.pairwise_cons.1 hb
   have hyx:TL y.1 x.1:=TL.tot _ _ h2 h
   show kget _ _ _=_
   rw [kget_cons,show tget (y::b) s=if y.1=s then some y else tget b s from kget_cons _ _ _]
   by_cases hs:y.1=s
   ·rw [if_pos hs,if_pos hs,←hs,tget_above (l:=x::a) (s:=y.1) (fun t ht=>by
     rcases List.mem_cons.1 ht with rfl|ht
     ·exact hyx
     ·exact TL.tr _ _ _ hyx (p1 t ht))]
    rfl
   ·rw [if_neg hs,if_neg hs];exact ih ha q2
 | case5 x a y b h h2 ih =>
   obtain ⟨p1,p2⟩:=List.pairwise_cons.1 ha
   obtain ⟨q1,q2⟩:=List.pairwise_cons.1 hb
   have hxy:x.1=y.1:=Classical.byContradiction h2
   show kget _ _ _=_
   rw [kget_cons,show tget (x::a) s=if x.1=s then some x else tget a s from kget_cons _ _ _,show tget (y::b) s=if y.1=s then some y else tget b s from kget_cons _ _ _,←hxy]
   by_cases hs:x.1=s
   ·rw [if_pos hs,if_pos hs,if_pos hs];rfl
   ·rw [if_neg hs,if_neg hs,if_neg hs];exact ih p2 q2
def tjoin (a b:List Tag):List Tag:=(tmrg a b).take 100
theorem tmay_max {x y:Tag} (hx:tmay x=true) (hy:tmay y=true):tmay (x.1,max x.2 y.2)=true:=by
 unfold tmay at *
 simp only [Bool.and_eq_true,decide_eq_true_eq] at *
 omega
theorem tmrg_may (a b:List Tag) (ha:∀t ∈ a,tmay t=true) (hb:∀t ∈ b,tmay t=true):∀t ∈ tmrg a b,tmay t=true:=by
 fun_induction tmrg a b with
 | case1 b=>exact hb
 | case2 x a=>exact ha
 | case3 x a y b h ih =>
   intro t ht
   rcases List.mem_cons.1 ht with rfl|ht
   ·exact ha _ qb
   ·exact ih (fun t h=>ha t (by simp [h])) hb t ht
 | case4 x a y b h h2 ih =>
   intro t ht
   rcases List.mem_cons.1 ht with rfl|ht
   ·exact hb _ qb
   ·exact ih ha (fun t h=>hb t (by simp [h])) t ht
 | case5 x a y b h h2 ih =>
   intro t ht
   rcases List.mem_cons.1 ht with rfl|ht
   ·exact tmay_max (ha x qb) (hb y qb)
   ·exact ih (fun t h=>ha t (by simp [h])) (fun t h=>hb t (by simp [h])) t ht
theorem TV.join {a b:List Tag} (ha:TV a) (hb:TV b):TV (tjoin a b) :=
 ⟨by unfold tjoin;rw [List.length_take];omega,(tmrg_rise a b ha.r hb.r).take 100,fun t ht=>tmrg_may a b ha.may hb.may t (List.mem_of_mem_take ht)⟩
def twr (s:List UInt8) (n:Int):Bool→List Tag→List Tag
 | p,[]=>if p then [] else [(s,n)]
 | p,a::l=>(if !p && !tlt a.1 s then [(s,n)] else [])++((if a.1=s then [] else [a])++twr s n (p || !tlt a.1 s) l)
def twith (l:List Tag) (s:List UInt8) (n:Int):List Tag:=twr s n false l
def tstep (out:List Tag) (t:Tag):List Tag:=if tnum out t.1<t.2 then twith out t.1 t.2 else out
def tfold (a b:List Tag):List Tag:=b.foldl tstep a
theorem twr_true (s:List UInt8) (n:Int):∀l:List Tag,(∀t ∈ l,TL s t.1)→twr s n true l=l
 | [],_=>rfl
 | a::l,h=>by
   have ha:=h a qb
   have hne:¬a.1=s:=fun e=>TL.irr s (by rw [e] at ha;exact ha)
   rw [twr,if_neg hne,Bool.true_or,twr_true s n l (fun t ht=>h t (by simp [ht]))]
   simp
theorem twith_ins (s:List UInt8) (n:Int):∀l:List Tag,TR l→twith l s n=kins TL (fun t:Tag=>t.1) (s,n) l
 | [],_=>rfl
 | a::l,h=>by
   obtain ⟨p1,p2⟩:=List.pairwise_cons.1 h
   have ih:=twith_ins s n l p2
   unfold twith at *
   rw [twr,kins]
   by_cases e:a.1=s
   ·have hlt:tlt a.1 s=false:=by rw [e];exact tlt_irrefl s
    rw [hlt,if_pos e,if_pos e]
    simp only [Bool.not_false,Bool.and_self,Bool.or_true,if_true,List.nil_append]
    rw [twr_true s n l (fun t ht=>by rw [←e];exact p1 t ht)];rfl
   ·rw [if_neg e,if_neg e]
    cases hlt:tlt a.1 s with
    | true =>
      have h2:¬TL s a.1:=fun h2=>TL.irr s (TL.tr _ _ _ h2 hlt)
      rw [if_neg h2]
      simp only [Bool.not_true,Bool.and_false,Bool.or_false]
      rw [ih];rfl
    | false =>
      have h2:TL s a.1:=TL.tot _ _ e (by unfold TL;rw [hlt];simp)
      rw [if_pos h2]
      simp only [Bool.not_false,Bool.and_self,Bool.or_true,if_true]
      rw [twr_true s n l (fun t ht=>TL.tr _ _ _ h2 (p1 t ht))];rfl
theorem tstep_rise {out:List Tag} (h:TR out) (t:Tag):TR (tstep out t):=by
 unfold tstep
 split
 ·rw [twith_ins _ _ _ h];exact KS.ins TL.tr TL.tot _ h
 ·exact h
theorem tstep_get {out:List Tag} (h:TR out) (t:Tag) (ht:1≤t.2) (s:List UInt8):tget (tstep out t) s=if t.1=s then tof (tget out s) (some t) else tget out s:=by
 unfold tstep
 by_cases hlt:tnum out t.1<t.2
 ·rw [if_pos hlt,twith_ins _ _ _ h]
  show kget _ _ _=_
  rw [kins_get]
  by_cases e:t.1=s
  ·subst e
   rw [if_pos rfl,if_pos rfl]
   unfold tnum at hlt
   cases hg:tget out t.1 with
   | none=>rfl
   | some x =>
     rw [hg] at hlt
     have hlt' : x.2<t.2:=hlt
     have e1:x.1=t.1:=(kget_some hg).2
     show some (t.1,t.2)=some (x.1,max x.2 t.2)
     rw [e1,show max x.2 t.2=t.2 by omega]
  ·rw [if_neg e,if_neg e]
 ·rw [if_neg hlt]
  by_cases e:t.1=s
  ·subst e
   rw [if_pos rfl]
   unfold tnum at hlt
   cases hg:tget out t.1 with
   | none =>
     rw [hg] at hlt
     have hlt' : ¬(0:Int)<t.2:=hlt
     omega
   | some x =>
     rw [hg] at hlt
     have hlt' : ¬x.2<t.2:=hlt
     show some x=some (x.1,max x.2 t.2)
     rw [show max x.2 t.2=x.2 by omega]
  ·rw [if_neg e]
theorem tfold_spec:∀(b a:List Tag),TR a→TR b→(∀t ∈ b,1≤t.2)→TR (tfold a b)∧∀s,tget (tfold a b) s=tof (tget a s) (tget b s)
 | [],a,ha,_,_=>⟨ha,fun s=>by
   show tget a s=tof (tget a s) none
   cases tget a s <;> rfl⟩
 | t::b,a,ha,hb,hn=>by
   obtain ⟨q1,q2⟩:=List.pairwise_cons.1 hb
   obtain ⟨h1,h2⟩:=tfold_spec b (tstep a t) (tstep_rise ha t) q2 (fun u hu=>hn u (by simp [hu]))
   refine ⟨h1,fun s=>?_⟩
   show tget (tfold (tstep a t) b) s=_
   rw [h2,tstep_get ha t (hn t qb),show tget (t::b) s=if t.1=s then some t else tget b s from kget_cons _ _ _]
   by_cases e:t.1=s
   ·subst e
    rw [if_pos rfl,if_pos rfl,tget_above q1]
    cases tget a t.1 <;> rfl
   ·rw [if_neg e,if_neg e]
theorem tfold_eq {a b:List Tag} (ha:TR a) (hb:TR b) (hn:∀t ∈ b,1≤t.2):tfold a b=tmrg a b :=
 KS.ext TL.irr TL.tr (tfold_spec b a ha hb hn).1 (tmrg_rise a b ha hb) (fun s=>by
  show tget _ _=tget _ _
  rw [(tfold_spec b a ha hb hn).2,tmrg_get a b ha hb])
end
section
open Go.RowKit Go.Maps Go.Shelf
def tcells (t:Tag):List Value:=[.string (bs t.1),.int .i64 t.2]
theorem tenc:Enc tcells 2:=⟨fun _=>rfl,fun a u hu=>by simp [tcells] at hu;rcases hu with rfl|rfl <;> rfl⟩
abbrev Tags (w:World) (v:Value) (l:List Tag):Prop:=GRow tcells 2 w v l
theorem infoTag:(Tryz.prog.info? 90).map (fun i=>(i.zero,i.size,i.bytes))=some (some (.agg #[.string ⟨#[]⟩,.int .i64 0]),2,24):=by kernel_rfl
theorem Tags.get {w:World} {a:Option Addr} {n cap:Nat} {l:List Tag} (h:Tags w (.slice a n cap) l) {k:Nat} (hk:k<l.length) :
 ∃b off,a=some ⟨b,off,none⟩∧b<w.heap.size∧w.cell? ⟨b,off+k*2,none⟩=some (.string (bs (l.getD k t0).1))∧w.cell? ⟨b,off+k*2+1,none⟩=some (.int .i64 (l.getD k t0).2):=by
 obtain ⟨b,off,e,hb,hc⟩:=GRow.get h tenc t0 hk
 exact ⟨b,off,e,hb,hc 0 oe,hc 1 oe⟩
theorem wpList_append_tags {ops:Array Oper} {rest:List Oper} {o:Oper} {a:Act} {Q:Exit→Act→World→Prop} {w:World} (hgd:o.guard=none) (s x:Operand)
 (ho:o.op=.call { callee:=.builtin .append,args:=#[s,x],argTypes:=#[49,49] }) (base:Nat) (v:Value) (xs:List Tag) (n:Nat) (hs:a.eval s=v)
 (hown:w.ownsRow base 90 2 v n (gvs tcells xs)) (u:Value) (k:List Tag) (m:Nat) (hx:a.eval x=u) (hu:Row w u m 2 (gvs tcells k)) (hlen:n+m≤1000000) (hbase:base≤w.heap.size)
 (h:∀v' w',w'.ownsRow base 90 2 v' (n+m) (gvs tcells (xs++k))→w.grownBy w' v.ownBlock→wpList Tryz.prog ops Q rest (a.put o.dst v') w'):wpList Tryz.prog ops Q (o::rest) a w:=by
 obtain ⟨i0,hi,hz0,hz1,hz2⟩:=ipt infoTag
 exact wlar hgd s x _ ho base 90 i0 _ 2 24 Tryz.underlying49 hi hz0 hz1 hz2 rfl qd qd v n (gvs tcells xs) hs hown u m (gvs tcells k) hx hu (gvs_cells tenc k) hlen hbase (fun v' w' q1 q2=>h v' w' (by rw [gvs_append];exact q1) q2)
theorem tags_lit (w:World) (t:Tag):Row (w.alloc (.cells #[.string (bs t.1),.int .i64 t.2] 90)) (.slice (some ⟨w.heap.size,0,none⟩) 1 1) 1 2 (gvs tcells [t]):=lit_g w 90 t 2 rfl rfl
theorem bs_listt (l:List UInt8):(bs l).toList=l:=ByteArray.toList_mk l
def nmay (s:List UInt8):Bool:=decide (1≤s.length) && decide (s.length≤40)
theorem nmay_any (s:List UInt8) (w:World):Calls Tryz.prog 188 #[.string (bs s)] w fun e w'=>e=.returned (.bool (nmay s))∧w'=w:=by
 have hsz:=bs_size s
 unfold nmay
 cases s with
 | nil =>
   have h1:(bs []).toList=[]:=bs_listt []
   have h2:(bs []).toList.isEmpty=true:=by rw [h1];rfl
   go_enter Tryz.func188,Tryz.ntmps188
   go_wp2
   go_ret
   exact ⟨rfl,rfl⟩
 | cons c r =>
   have h1:((bs (c::r)).toList=[])=False:=by rw [bs_listt];simp
   have h2:(bs (c::r)).toList.isEmpty=false:=by rw [bs_listt];rfl
   have hd:decide (1≤(c::r).length)=true:=by simp
   rw [hd]
   generalize (c::r).length=k at *
   generalize bs (c::r)=S at *
   clear hd
   go_enter Tryz.func188,Tryz.ntmps188
   go_wp2
   go_ret
   exact ⟨ret_bool qc,rfl⟩
theorem rnmay_any (s:List UInt8) (w:World):Calls Tryz.prog 164 #[.string (bs s)] w fun e w'=>e=.returned (.bool (nmay s))∧w'=w:=by
 have hsz:=bs_size s
 unfold nmay
 generalize s.length=k at *
 generalize bs s=S at *
 by_cases h:1≤k
 ·have h1:(1:Int)≤(k:Int):=by omega
  go_enter Tryz.func164,Tryz.ntmps164
  go_wp2
  go_ret
  exact ⟨ret_bool (by simp [h];omega),rfl⟩
 ·obtain rfl:k=0:=by omega
  go_enter Tryz.func164,Tryz.ntmps164
  go_wp2
  go_ret
  exact ⟨ret_bool qb,rfl⟩
theorem tat_of (l:List Tag) (k:Nat):tat l k=(nmay (l.getD k t0).1 && (decide (1≤(l.getD k t0).2) && (decide ((l.getD k t0).2≤1048576) && (decide (k=0) || tlt (l.getD (k-1) t0).1 (l.getD k t0).1)))):=by
 unfold tat tmay nmay
 simp only [Bool.and_assoc]
end
section
set_option maxHeartbeats 4000000
set_option maxRecDepth 8000
open Go.RowKit Go.Maps Go.Shelf
def er1 (b:Bool):Int:=if b then 0 else 1
theorem tchk_any (v:Value) (l:List Tag) (w:World) (hr:Tags w v l) (hl:l.length≤100000) :
 Calls Tryz.prog 147 #[v] w fun e w'=>e=.returned (.int .i64 (er1 (tchk l)))∧Pure w w':=by
 obtain ⟨a,cap,rfl⟩:=hr.shape
 obtain ⟨C,hC⟩:=qe (tchk l)
 rw [←hC]
 by_cases h100:l.length≤100
 ·have HB:=qh (∀k,k<l.length→tat l k=false→C=false) (fun k h e=>by rw [hC];unfold tchk;rw [allB_false h e,Bool.and_false])
  have HE:=qh (allB l.length (tat l)=true→C=true) (fun h=>by rw [hC];unfold tchk;rw [h,decide_eq_true h100];rfl)
  have Hr:=hid hr
  have hmay:=hid (fun s W=>(nmay_any s W).mono (R':=fun e w'=>e=.returned (.bool (nmay s))∧Pure W w') (fun e w' h=>⟨h.1,h.2 ▸ Below.refl _ _⟩))
  have h100' : ¬(l.length:Int) > 100:=by omega
  clear hr hC
  go_enter Tryz.func147,Tryz.ntmps147
  go_wp2_with fail
  go_loopw [10] (fun i wr=>∃k:Nat,k≤l.length∧i=.int .i64 k∧allB k (tat l)=true∧Pure w wr) (fun i _=>l.length-(RowKit.intOf i).toNat)
  case atStart=>exact ⟨0,Nat.zero_le _,rfl,rfl,Below.refl _ _⟩
  case round =>
   obtain ⟨k,hk,rfl,hal,hp⟩:=hrel
   have Hal:=hid hal
   have Hp:=hid hp
   clear hal
   by_cases hlt:k<l.length
   ·have hlt' : (k:Int)<(l.length:Int):=by omega
    have hk0:(0:Int)≤(k:Int):=by omega
    have Hrow:=qh (Tags wr (.slice a l.length cap) l) (Row.pure Hr.out hp)
    obtain ⟨b,off,rfl,hb,x0,x1⟩:=Tags.get Hrow.out hlt
    have Hno:=hid (fun (e:tat l k=false)=>HB.out k hlt e)
    have Hyes:=hid (fun (e:tat l k=true)=>allB_next Hal.out e)
    have Htat:=hid (tat_of l k)
    have hprev:=hid (fun (h0:0<k)=>(show wr.cell? ⟨b,off+(k-1)*2,none⟩=some (.string (bs (l.getD (k-1) t0).1)) from by
     obtain ⟨b',off',e',_,y0,_⟩:=Tags.get Hrow.out (show k-1<l.length by omega)
     cases e';exact y0))
    have hmy:=hid (hmay.out (l.getD k t0).1)
    have hge:=qh (Op.bytesLess (bs (l.getD (k-1) t0).1).toList (bs (l.getD k t0).1).toList=tlt (l.getD (k-1) t0).1 (l.getD k t0).1) (by rw [bs_listt,bs_listt];rfl)
    generalize l.getD (k-1) t0=y at *
    generalize l.getD k t0=z at *
    obtain ⟨zs,zn⟩:=z
    obtain ⟨ys,yn⟩:=y
    dsimp only at x0 x1 Htat hmy hprev hge
    obtain ⟨Wd,hWd⟩:=qe (wr.alloc (.cells #[.string (bs zs),.int .i64 zn] 90))
    have Hpd:=qh (Pure wr Wd) (by rw [hWd];exact qp)
    have Hbd:=qh (Wd.heap[wr.heap.size]?=some (.cells #[.string (bs zs),.int .i64 zn] 90 (0,0))) (by rw [hWd];exact ban _ _)
    have Hwb:=hid (fun W (hW:Pure Wd W)=>(Pure.then_ Hpd.out hW).cell (p:=⟨b,off+(k-1)*2,none⟩) hb)
    clear hp
    generalize nmay zs=D1 at *
    generalize tlt ys zs=D4 at *
    cases D1 with
    | false =>
      have HF:=hid (Hno.out (by rw [Htat.out];rfl))
      clear Hyes Hno Htat hprev hge
      have hS:Hid (∀W,Pure Wd W→(W.cell? ⟨wr.heap.size,0,none⟩=some (.string (bs zs))∧W.cell? ⟨wr.heap.size,1,none⟩=some (.int .i64 zn)∧Pure Wd W)):=fun W hW=>by
       have ed:=(hW.block _ (lob Hbd.out)).trans Hbd.out
       exact ⟨cob ed 0,cob ed 1,hW⟩
      have hst:=hid (hS.out Wd.drew qv)
      have hS2:Hid (∀W:World,(W.cell? ⟨wr.heap.size,0,none⟩=some (.string (bs zs))∧W.cell? ⟨wr.heap.size,1,none⟩=some (.int .i64 zn)∧Pure Wd W)→Pure Wd W):=fun W h=>h.2.2
      go_wp2_with fail
      rw [←hWd]
      clear hWd x0 x1
      refine wp_region_held_drew (S:=(fun W=>W.cell? ⟨wr.heap.size,0,none⟩=some (.string (bs zs))∧W.cell? ⟨wr.heap.size,1,none⟩=some (.int .i64 zn)∧Pure Wd W)) qk ?_ (fun hHeld=>?_)
      ·exact qz
      refine tkA 0 ?_
      refine tkA 1 ?_
      refine tkC 2 fun K hK=>?_
      go_simp
      go_at_call 188;(with_reducible refine (hmy.out _).mono ?_);rintro e w7 ⟨rfl,hp7⟩;go_wp2_with fail
      refine hK.out _ _ qz fun hHeld=>?_
      clear hK K
      refine tkA 3 ?_
      refine tkA 4 ?_
      refine tkU 5 ?_
      refine tkU 6 ?_
      refine tkU 7 ?_
      refine tkA 8 ?_
      refine tkA 9 ?_
      refine tkU 10 ?_
      refine tkU 11 ?_
      refine tkU 12 ?_
      refine tkA 13 ?_
      refine tkA 14 ?_
      refine tkU 15 ?_
      refine tkU 16 ?_
      refine tkU 17 ?_
      refine tkU 18 ?_
      refine tkU 19 ?_
      refine tkU 20 ?_
      refine tkU 21 ?_
      refine tkU 22 ?_
      refine tkU 23 ?_
      refine tkU 24 ?_
      refine tkU 25 ?_
      refine tkU 26 ?_
      refine tkU 27 ?_
      refine tkA 28 ?_
      refine wpAnyH_done qk ?_ _
      have hx:=hid (hS2.out w7 qa)
      go_wp2
      go_ret
      exact ⟨by rw [HF.out];rfl,Hp.out.then_ (Pure.then_ Hpd.out hx.out)⟩
    | true =>
      by_cases c2:1≤zn
      ·have c2' : decide (zn<1)=false:=decide_eq_false oe
       by_cases c3:zn≤1048576
       ·have c3' : decide (zn > 1048576)=false:=decide_eq_false oe
        have c3'' : decide (1048576<zn)=false:=decide_eq_false oe
        by_cases c4:k=0
        ·subst c4
         have HT:=hid (Hyes.out (by rw [Htat.out,decide_eq_true c2,decide_eq_true c3];rfl))
         clear Hyes Hno Htat hprev hge
         simp only [Nat.zero_mul,Nat.add_zero] at x0 x1
         have hS:Hid (∀W,Pure Wd W→(W.cell? ⟨wr.heap.size,0,none⟩=some (.string (bs zs))∧W.cell? ⟨wr.heap.size,1,none⟩=some (.int .i64 zn)∧Pure Wd W)):=fun W hW=>by
          have ed:=(hW.block _ (lob Hbd.out)).trans Hbd.out
          exact ⟨cob ed 0,cob ed 1,hW⟩
         have hst:=hid (hS.out Wd.drew qv)
         have hS2:Hid (∀W:World,(W.cell? ⟨wr.heap.size,0,none⟩=some (.string (bs zs))∧W.cell? ⟨wr.heap.size,1,none⟩=some (.int .i64 zn)∧Pure Wd W)→Pure Wd W):=fun W h=>h.2.2
         go_wp2_with fail
         rw [←hWd]
         clear hWd x0 x1
         refine wp_region_held_drew (S:=(fun W=>W.cell? ⟨wr.heap.size,0,none⟩=some (.string (bs zs))∧W.cell? ⟨wr.heap.size,1,none⟩=some (.int .i64 zn)∧Pure Wd W)) qk ?_ (fun hHeld=>?_)
         ·exact qz
         refine tkA 0 ?_
         refine tkA 1 ?_
         refine tkC 2 fun K hK=>?_
         go_simp
         go_at_call 188;(with_reducible refine (hmy.out _).mono ?_);rintro e w7 ⟨rfl,hp7⟩;go_wp2_with fail
         refine hK.out _ _ qz fun hHeld=>?_
         clear hK K
         refine tkA 3 ?_
         refine tkA 4 ?_
         refine tkA 5 ?_
         refine tkA 6 ?_
         refine tkA 7 ?_
         refine tkA 8 ?_
         refine tkA 9 ?_
         refine tkA 10 ?_
         refine tkA 11 ?_
         refine tkA 12 ?_
         refine tkA 13 ?_
         refine tkA 14 ?_
         refine tkA 15 ?_
         refine tkA 16 ?_
         refine tkA 17 ?_
         refine tkU 18 ?_
         refine tkU 19 ?_
         refine tkU 20 ?_
         refine tkU 21 ?_
         refine tkU 22 ?_
         refine tkU 23 ?_
         refine tkU 24 ?_
         refine tkU 25 ?_
         refine tkU 26 ?_
         refine tkA 27 ?_
         refine tkA 28 ?_
         refine wpAnyH_done qk ?_ _
         have hx:=hid (hS2.out w7 qa)
         go_wp2
         go_roundw
         case rel=>exact ⟨0+1,by omega,by go_num,HT.out,Hp.out.then_ (Pure.then_ Hpd.out hx.out)⟩
         case measure=>simp [RowKit.intOf];omega
        ·have h0' : decide ((k:Int) > 0)=true:=decide_eq_true oe
         have h0'' : decide (0<k)=true:=decide_eq_true oe
         have hsub:IntKind.i64.wrap ((k:Int)-1)=((k-1:Nat):Int):=by rw [IntWalk.i64_in _ oe];omega
         have hsub2:(k:Int)-1=((k-1:Nat):Int):=by omega
         have hlt2:((k-1:Nat):Int)<(l.length:Int):=by omega
         have y0:=hprev.out oe
         have hn:(0:Int)≤((k-1:Nat):Int):=by omega
         have HT':=hid (fun (e:D4=true)=>Hyes.out (by rw [Htat.out,decide_eq_true c2,decide_eq_true c3,e,Bool.or_true];rfl))
         have HF':=hid (fun (e:D4=false)=>Hno.out (by rw [Htat.out,e,decide_eq_false c4,Bool.or_false,Bool.and_false,Bool.and_false,Bool.and_false]))
         have hge1:=hge.out
         have hwm:IntKind.i64.wrap ((k-1:Nat):Int)=((k-1:Nat):Int):=IntWalk.i64_in _ oe
         clear Hyes Hno Htat hprev hge
         cases D4 with
         | true =>
           have HT:=hid (HT'.out rfl)
           clear HT' HF'
           have hS:Hid (∀W,Pure Wd W→(W.cell? ⟨wr.heap.size,0,none⟩=some (.string (bs zs))∧W.cell? ⟨wr.heap.size,1,none⟩=some (.int .i64 zn)∧W.cell? ⟨b,off+(k-1)*2,none⟩=some (.string (bs ys))∧Pure Wd W)):=fun W hW=>by
            have ed:=(hW.block _ (lob Hbd.out)).trans Hbd.out
            exact ⟨cob ed 0,cob ed 1,(Hwb.out W hW).trans y0,hW⟩
           have hst:=hid (hS.out Wd.drew qv)
           have hS2:Hid (∀W:World,(W.cell? ⟨wr.heap.size,0,none⟩=some (.string (bs zs))∧W.cell? ⟨wr.heap.size,1,none⟩=some (.int .i64 zn)∧W.cell? ⟨b,off+(k-1)*2,none⟩=some (.string (bs ys))∧Pure Wd W)→Pure Wd W):=fun W h=>h.2.2.2
           generalize hj:k-1=j at *
           go_wp2_with fail
           rw [←hWd]
           clear hWd x0 x1
           refine wp_region_held_drew (S:=(fun W=>W.cell? ⟨wr.heap.size,0,none⟩=some (.string (bs zs))∧W.cell? ⟨wr.heap.size,1,none⟩=some (.int .i64 zn)∧W.cell? ⟨b,off+j*2,none⟩=some (.string (bs ys))∧Pure Wd W)) qk ?_ (fun hHeld=>?_)
           ·exact qz
           refine tkA 0 ?_
           refine tkA 1 ?_
           refine tkC 2 fun K hK=>?_
           go_simp
           go_at_call 188;(with_reducible refine (hmy.out _).mono ?_);rintro e w7 ⟨rfl,hp7⟩;go_wp2_with fail
           refine hK.out _ _ qz fun hHeld=>?_
           clear hK K
           refine tkA 3 ?_
           refine tkA 4 ?_
           refine tkA 5 ?_
           refine tkA 6 ?_
           refine tkA 7 ?_
           refine tkA 8 ?_
           refine tkA 9 ?_
           refine tkA 10 ?_
           refine tkA 11 ?_
           refine tkA 12 ?_
           refine tkA 13 ?_
           refine tkA 14 ?_
           refine tkA 15 ?_
           refine tkA 16 ?_
           refine tkA 17 ?_
           refine tkA 18 ?_
           refine tkA 19 ?_
           refine tkA 20 ?_
           refine tkA 21 ?_
           refine tkA 22 ?_
           refine tkA 23 ?_
           refine tkA 24 ?_
           refine tkA 25 ?_
           refine tkA 26 ?_
           refine tkA 27 ?_
           refine tkA 28 ?_
           refine wpAnyH_done qk ?_ _
           have hx:=hid (hS2.out w7 qa)
           go_wp2
           go_roundw
           case rel=>exact ⟨k+1,by omega,by go_num,HT.out,Hp.out.then_ (Pure.then_ Hpd.out hx.out)⟩
           case measure=>simp [RowKit.intOf];omega
         | false =>
           have HF:=hid (HF'.out rfl)
           clear HT' HF'
           have hS:Hid (∀W,Pure Wd W→(W.cell? ⟨wr.heap.size,0,none⟩=some (.string (bs zs))∧W.cell? ⟨wr.heap.size,1,none⟩=some (.int .i64 zn)∧W.cell? ⟨b,off+(k-1)*2,none⟩=some (.string (bs ys))∧Pure Wd W)):=fun W hW=>by
            have ed:=(hW.block _ (lob Hbd.out)).trans Hbd.out
            exact ⟨cob ed 0,cob ed 1,(Hwb.out W hW).trans y0,hW⟩
           have hst:=hid (hS.out Wd.drew qv)
           have hS2:Hid (∀W:World,(W.cell? ⟨wr.heap.size,0,none⟩=some (.string (bs zs))∧W.cell? ⟨wr.heap.size,1,none⟩=some (.int .i64 zn)∧W.cell? ⟨b,off+(k-1)*2,none⟩=some (.string (bs ys))∧Pure Wd W)→Pure Wd W):=fun W h=>h.2.2.2
           generalize hj:k-1=j at *
           go_wp2_with fail
           rw [←hWd]
           clear hWd x0 x1
           refine wp_region_held_drew (S:=(fun W=>W.cell? ⟨wr.heap.size,0,none⟩=some (.string (bs zs))∧W.cell? ⟨wr.heap.size,1,none⟩=some (.int .i64 zn)∧W.cell? ⟨b,off+j*2,none⟩=some (.string (bs ys))∧Pure Wd W)) qk ?_ (fun hHeld=>?_)
           ·exact qz
           refine tkA 0 ?_
           refine tkA 1 ?_
           refine tkC 2 fun K hK=>?_
           go_simp
           go_at_call 188;(with_reducible refine (hmy.out _).mono ?_);rintro e w7 ⟨rfl,hp7⟩;go_wp2_with fail
           refine hK.out _ _ qz fun hHeld=>?_
           clear hK K
           refine tkA 3 ?_
           refine tkA 4 ?_
           refine tkA 5 ?_
           refine tkA 6 ?_
           refine tkA 7 ?_
           refine tkA 8 ?_
           refine tkA 9 ?_
           refine tkA 10 ?_
           refine tkA 11 ?_
           refine tkA 12 ?_
           refine tkA 13 ?_
           refine tkA 14 ?_
           refine tkA 15 ?_
           refine tkA 16 ?_
           refine tkA 17 ?_
           refine tkA 18 ?_
           refine tkA 19 ?_
           refine tkA 20 ?_
           refine tkA 21 ?_
           refine tkA 22 ?_
           refine tkA 23 ?_
           refine tkA 24 ?_
           refine tkA 25 ?_
           refine tkA 26 ?_
           refine tkA 27 ?_
           refine tkA 28 ?_
           refine wpAnyH_done qk ?_ _
           have hx:=hid (hS2.out w7 qa)
           go_wp2
           go_ret
           exact ⟨by rw [HF.out];rfl,Hp.out.then_ (Pure.then_ Hpd.out hx.out)⟩
       ·have c3' : decide (zn > 1048576)=true:=decide_eq_true oe
        have c3'' : decide (1048576<zn)=true:=decide_eq_true oe
        have HF:=hid (Hno.out (by rw [Htat.out,decide_eq_false c3];simp))
        clear Hyes Hno Htat hprev hge
        have hS:Hid (∀W,Pure Wd W→(W.cell? ⟨wr.heap.size,0,none⟩=some (.string (bs zs))∧W.cell? ⟨wr.heap.size,1,none⟩=some (.int .i64 zn)∧Pure Wd W)):=fun W hW=>by
         have ed:=(hW.block _ (lob Hbd.out)).trans Hbd.out
         exact ⟨cob ed 0,cob ed 1,hW⟩
        have hst:=hid (hS.out Wd.drew qv)
        have hS2:Hid (∀W:World,(W.cell? ⟨wr.heap.size,0,none⟩=some (.string (bs zs))∧W.cell? ⟨wr.heap.size,1,none⟩=some (.int .i64 zn)∧Pure Wd W)→Pure Wd W):=fun W h=>h.2.2
        go_wp2_with fail
        rw [←hWd]
        clear hWd x0 x1
        refine wp_region_held_drew (S:=(fun W=>W.cell? ⟨wr.heap.size,0,none⟩=some (.string (bs zs))∧W.cell? ⟨wr.heap.size,1,none⟩=some (.int .i64 zn)∧Pure Wd W)) qk ?_ (fun hHeld=>?_)
        ·exact qz
        refine tkA 0 ?_
        refine tkA 1 ?_
        refine tkC 2 fun K hK=>?_
        go_simp
        go_at_call 188;(with_reducible refine (hmy.out _).mono ?_);rintro e w7 ⟨rfl,hp7⟩;go_wp2_with fail
        refine hK.out _ _ qz fun hHeld=>?_
        clear hK K
        refine tkA 3 ?_
        refine tkA 4 ?_
        refine tkA 5 ?_
        refine tkA 6 ?_
        refine tkA 7 ?_
        refine tkA 8 ?_
        refine tkA 9 ?_
        refine tkA 10 ?_
        refine tkA 11 ?_
        refine tkA 12 ?_
        refine tkA 13 ?_
        refine tkA 14 ?_
        refine tkU 15 ?_
        refine tkU 16 ?_
        refine tkU 17 ?_
        refine tkU 18 ?_
        refine tkU 19 ?_
        refine tkU 20 ?_
        refine tkU 21 ?_
        refine tkU 22 ?_
        refine tkU 23 ?_
        refine tkU 24 ?_
        refine tkU 25 ?_
        refine tkU 26 ?_
        refine tkU 27 ?_
        refine tkA 28 ?_
        refine wpAnyH_done qk ?_ _
        have hx:=hid (hS2.out w7 qa)
        go_wp2
        go_ret
        exact ⟨by rw [HF.out];rfl,Hp.out.then_ (Pure.then_ Hpd.out hx.out)⟩
      ·have c2' : decide (zn<1)=true:=decide_eq_true oe
       have HF:=hid (Hno.out (by rw [Htat.out,decide_eq_false c2];simp))
       clear Hyes Hno Htat hprev hge
       have hS:Hid (∀W,Pure Wd W→(W.cell? ⟨wr.heap.size,0,none⟩=some (.string (bs zs))∧W.cell? ⟨wr.heap.size,1,none⟩=some (.int .i64 zn)∧Pure Wd W)):=fun W hW=>by
        have ed:=(hW.block _ (lob Hbd.out)).trans Hbd.out
        exact ⟨cob ed 0,cob ed 1,hW⟩
       have hst:=hid (hS.out Wd.drew qv)
       have hS2:Hid (∀W:World,(W.cell? ⟨wr.heap.size,0,none⟩=some (.string (bs zs))∧W.cell? ⟨wr.heap.size,1,none⟩=some (.int .i64 zn)∧Pure Wd W)→Pure Wd W):=fun W h=>h.2.2
       go_wp2_with fail
       rw [←hWd]
       clear hWd x0 x1
       refine wp_region_held_drew (S:=(fun W=>W.cell? ⟨wr.heap.size,0,none⟩=some (.string (bs zs))∧W.cell? ⟨wr.heap.size,1,none⟩=some (.int .i64 zn)∧Pure Wd W)) qk ?_ (fun hHeld=>?_)
       ·exact qz
       refine tkA 0 ?_
       refine tkA 1 ?_
       refine tkC 2 fun K hK=>?_
       go_simp
       go_at_call 188;(with_reducible refine (hmy.out _).mono ?_);rintro e w7 ⟨rfl,hp7⟩;go_wp2_with fail
       refine hK.out _ _ qz fun hHeld=>?_
       clear hK K
       refine tkA 3 ?_
       refine tkA 4 ?_
       refine tkA 5 ?_
       refine tkA 6 ?_
       refine tkA 7 ?_
       refine tkA 8 ?_
       refine tkA 9 ?_
       refine tkU 10 ?_
       refine tkU 11 ?_
       refine tkU 12 ?_
       refine tkA 13 ?_
       refine tkA 14 ?_
       refine tkU 15 ?_
       refine tkU 16 ?_
       refine tkU 17 ?_
       refine tkU 18 ?_
       refine tkU 19 ?_
       refine tkU 20 ?_
       refine tkU 21 ?_
       refine tkU 22 ?_
       refine tkU 23 ?_
       refine tkU 24 ?_
       refine tkU 25 ?_
       refine tkU 26 ?_
       refine tkU 27 ?_
       refine tkA 28 ?_
       refine wpAnyH_done qk ?_ _
       have hx:=hid (hS2.out w7 qa)
       go_wp2
       go_ret
       exact ⟨by rw [HF.out];rfl,Hp.out.then_ (Pure.then_ Hpd.out hx.out)⟩
   ·have hlt' : ¬(k:Int)<(l.length:Int):=by omega
    obtain rfl:k=l.length:=by omega
    have HT:=hid (HE.out Hal.out)
    go_wp2
    go_ret
    exact ⟨by rw [HT.out];rfl,Hp.out⟩
 ·have hC2:C=false:=by rw [hC];unfold tchk;rw [decide_eq_false h100];rfl
  subst hC2
  have h100' : (l.length:Int) > 100:=by omega
  go_enter Tryz.func147,Tryz.ntmps147
  go_wp2
  go_ret
  exact ⟨rfl,Below.refl _ _⟩
end
end Go.Proofs.YtdlpnhfgjficgaaGreat
