import Derived.Test.YtdlpnhfgjficgaaGreatMQa
namespace Go.Proofs.YtdlpnhfgjficgaaGreat
section
open Go.RowKit Go.Maps
abbrev RS:=Option (List UInt8)
def rdg:Nat→Nat→List UInt8→Option (Nat × List UInt8)
 | 0,_,_=>none
 | _+1,_,[]=>none
 | f+1,n,c::r=>if 18446744073709551616≤n*128 then none else if c.toNat<128 then some (n*128+c.toNat,r) else rdg f (n*128+(c.toNat-128)) r
def rnumL (l:List UInt8):Option (Nat × List UInt8):=if l.head?=some 128 then none else rdg 10 0 l
def rdNum:RS→Nat × RS
 | none=>(0,none)
 | some l=>match rnumL l with
   | none=>(0,none)
   | some (n,r)=>(n,some r)
def rdInt (most:Int) (s:RS):Int × RS :=
 match rdNum s with
 | (_,none)=>(0,none)
 | (n,some r)=>if most<0∨most<n then (0,none) else (n,some r)
def rdX (most:Int) (s:RS):List UInt8 × RS :=
 match rdInt most s with
 | (_,none)=>([],none)
 | (n,some r)=>if r.length<n.toNat then ([],none) else (r.take n.toNat,some (r.drop n.toNat))
theorem rdNum_none:rdNum none=(0,none):=rfl
theorem rdInt_neg (most:Int) (h:most<0) (s:RS):rdInt most s=(0,none):=by
 unfold rdInt
 split
 ·rfl
 ·rw [if_pos (.inl h)]
theorem rdInt_bd (most:Int) (s:RS):0≤(rdInt most s).1∧(0≤most→(rdInt most s).1≤most):=by
 unfold rdInt
 split
 ·exact ⟨Int.le_refl _,fun h=>h⟩
 ·split
  ·exact ⟨Int.le_refl _,fun h=>h⟩
  ·rename_i n r _ h
   exact ⟨Int.natCast_nonneg n,fun _=>by show (n:Int)≤most;omega⟩
theorem rdNum_lt (s:RS):(rdNum s).1<18446744073709551616:=by
 have key:∀(f n:Nat) (l:List UInt8) (m:Nat) (r:List UInt8),rdg f n l=some (m,r)→m<18446744073709551616:=by
  intro f
  induction f with
  | zero=>intro n l m r h;simp [rdg] at h
  | succ f ih =>
    intro n l m r h
    cases l with
    | nil=>simp [rdg] at h
    | cons c l =>
      rw [rdg] at h
      split at h
      ·cases h
      ·split at h
       ·simp only [Option.some.injEq,Prod.mk.injEq] at h
        have:=c.toNat_lt
        omega
       ·exact ih _ _ _ _ h
 unfold rdNum
 split
 ·decide
 ·rename_i l
  cases e:rnumL l with
  | none=>simp
  | some p =>
    obtain ⟨n,r⟩:=p
    show n<_
    unfold rnumL at e
    split at e
    ·cases e
    ·exact key _ _ _ _ _ e
theorem lt_nd (n:Nat) (h2:n<18446744073709551616):n<128 ^ nd n:=by
 induction n using Nat.strongRecOn with
 | _ n ih =>
   by_cases h:n<128
   ·rw [nd_small h];omega
   ·have:=ih (n / 128) oe oe
    rw [nd_big h h2,Nat.pow_succ]
    omega
theorem nd_top (n:Nat) (h:¬n<128) (h2:n<18446744073709551616):128 ^ (nd n-1)≤n:=by
 induction n using Nat.strongRecOn with
 | _ n ih =>
   rw [nd_big h h2,Nat.add_sub_cancel]
   by_cases h' : n / 128<128
   ·rw [nd_small h'];omega
   ·have:=ih (n / 128) oe h' oe
    have hp:=nd_pos (n / 128)
    have e:nd (n / 128)=nd (n / 128)-1+1:=by omega
    rw [e,Nat.pow_succ]
    omega
theorem rdg_hi (n:Nat) (h2:n<18446744073709551616) (r:List UInt8) (f:Nat):∀j,rdg (j+1+f) (n / 128 ^ (j+1)) (hi n j++(UInt8.ofNat (n % 128)::r))=some (n,r)
 | 0=>by
   have e:(UInt8.ofNat (n % 128)).toNat=n % 128:=by rw [UInt8.toNat_ofNat'];omega
   have e1:0+1+f=f+1:=by omega
   rw [e1,hi,List.nil_append,rdg,e,if_neg oe,if_pos oe]
   simp only [Nat.zero_add,Nat.pow_one,Option.some.injEq,Prod.mk.injEq,and_true]
   omega
 | j+1=>by
   have ih:=rdg_hi n h2 r f j
   have hd:=dg_lt n (j+1)
   have e:(UInt8.ofNat (dg n (j+1))).toNat=dg n (j+1):=by rw [UInt8.toNat_ofNat'];omega
   have e1:j+1+1+f=(j+1+f)+1:=by omega
   have e2:n / 128 ^ (j+1+1)=n / 128 ^ (j+1) / 128:=by rw [Nat.pow_succ,Nat.div_div_eq_div_mul]
   have e3:n / 128 ^ (j+1)≤n:=Nat.div_le_self _ _
   have e4:n / 128 ^ (j+1) / 128*128+(dg n (j+1)-128)=n / 128 ^ (j+1):=by unfold dg;omega
   rw [e1,hi,List.cons_append,rdg,e,e2,if_neg oe,if_neg oe,e4]
   exact ih
theorem num_hi (n:Nat) (h2:n<18446744073709551616):num n=hi n (nd n-1)++[UInt8.ofNat (n % 128)]:=by unfold num;rw [numAcc_hi n h2]
theorem num_head (n:Nat) (h2:n<18446744073709551616) (r:List UInt8):(num n++r).head?≠some 128:=by
 rw [num_hi n h2]
 by_cases h:n<128
 ·rw [nd_small h,show 1-1=0 from rfl]
  have e:(UInt8.ofNat (n % 128)).toNat=n % 128:=by rw [UInt8.toNat_ofNat'];omega
  intro h3
  simp only [hi,List.nil_append,List.cons_append,List.head?_cons,Option.some.injEq] at h3
  rw [h3] at e
  have:(128:UInt8).toNat=128:=rfl
  omega
 ·have h3:=nd_top n h h2
  have h4:=lt_nd n h2
  have hp:2≤nd n:=by rw [nd_big h h2];have:=nd_pos (n / 128);omega
  obtain ⟨k,hk⟩ : ∃k,nd n-1=k+1:=⟨nd n-2,by omega⟩
  rw [hk] at h3 ⊢
  have hk2:nd n=k+1+1:=by omega
  rw [hk2] at h4
  rw [hi,List.cons_append,List.cons_append,List.head?_cons]
  intro h5
  have h6:=Option.some.inj h5
  have e:(UInt8.ofNat (dg n (k+1))).toNat=dg n (k+1):=by rw [UInt8.toNat_ofNat'];have:=dg_lt n (k+1);omega
  rw [h6] at e
  have e8:(128:UInt8).toNat=128:=rfl
  have h7:1≤n / 128 ^ (k+1):=(Nat.le_div_iff_mul_le (Nat.pow_pos qd)).2 oe
  have h8:n / 128 ^ (k+1)<128:=by
   rw [Nat.div_lt_iff_lt_mul (Nat.pow_pos qd),Nat.mul_comm,←Nat.pow_succ];exact h4
  unfold dg at e
  omega
theorem rnumL_num (n:Nat) (h2:n<18446744073709551616) (r:List UInt8):rnumL (num n++r)=some (n,r):=by
 unfold rnumL
 rw [if_neg (num_head n h2 r),num_hi n h2,List.append_assoc]
 have hp:=nd_pos n
 have hl:=nd_le n h2
 have h:=rdg_hi n h2 r (10-nd n) (nd n-1)
 have e1:nd n-1+1=nd n:=by omega
 have e2:nd n+(10-nd n)=10:=by omega
 rw [e1,e2,Nat.div_eq_of_lt (lt_nd n h2)] at h
 exact h
theorem rdInt_num (most:Int) (n:Nat) (h:(n:Int)≤most) (h2:n<18446744073709551616) (r:List UInt8):rdInt most (some (num n++r))=((n:Int),some r):=by
 have e:rdNum (some (num n++r))=(n,some r):=by
  unfold rdNum
  dsimp only
  rw [rnumL_num n h2]
 unfold rdInt
 rw [e]
 dsimp only
 rw [if_neg oe]
theorem rdText_text (most:Int) (s:List UInt8) (h:(s.length:Int)≤most) (h2:s.length<18446744073709551616) (r:List UInt8):rdX most (some (textB s++r))=(s,some r):=by
 unfold rdX textB
 rw [List.append_assoc,rdInt_num most s.length h h2]
 dsimp only
 rw [Int.toNat_natCast,if_neg (by rw [List.length_append];omega),List.take_left' rfl,List.drop_left' rfl]
def vl (p:List UInt8):Nat:=p.foldl (fun n c=>n*128+(c.toNat-128)) 0
theorem vl_snoc (p:List UInt8) (c:UInt8):vl (p++[c])=vl p*128+(c.toNat-128):=by unfold vl;rw [List.foldl_append];rfl
structure Dgs (p:List UInt8):Prop where
 on:∀c ∈ p,128≤c.toNat
 first:p.head?≠some 128
theorem Dgs.pos:∀(n:Nat) {p:List UInt8},p.length=n+1→Dgs p→0<vl p:=by
 intro n
 induction n with
 | zero =>
   intro p hl h
   match p,hl with
   | [c],_ =>
     have h1:=h.on c qb
     have h2:c≠128:=fun e=>h.first (by rw [e];rfl)
     have h3:c.toNat≠128:=fun e=>h2 (UInt8.toNat_inj.1 e)
     show 0<0*128+(c.toNat-128)
     omega
 | succ n ih =>
   intro p hl h
   have hne:p≠[]:=by intro e;rw [e] at hl;simp at hl
   have e:=List.dropLast_concat_getLast hne
   rw [←e,vl_snoc]
   have h1:=ih (p:=p.dropLast) qc ⟨fun c hc=>h.on c ((List.dropLast_sublist p).subset hc),by
    intro h1
    apply h.first
    rw [←e,List.head?_append,h1];rfl⟩
   omega
theorem Dgs.num:∀(n:Nat) {p:List UInt8},p.length=n→Dgs p→∀(c:Nat),c<128→∀acc,numAcc (vl p*128+c) acc=p++acc:=by
 intro n
 induction n with
 | zero =>
   intro p hl h c hc acc
   have:=List.eq_nil_of_length_eq_zero hl
   subst this
   rw [numAcc_small (by show 0*128+c<128;omega)];rfl
 | succ n ih =>
   intro p hl h c hc acc
   have hpos:=Dgs.pos n hl h
   have hne:p≠[]:=by intro e;rw [e] at hl;simp at hl
   have e:=List.dropLast_concat_getLast hne
   have hb:=h.on _ (List.getLast_mem hne)
   have hb2:=(p.getLast hne).toNat_lt
   rw [numAcc_big oe]
   have e1:(vl p*128+c) / 128=vl p:=by omega
   have e0:vl p=vl p.dropLast*128+((p.getLast hne).toNat-128):=by rw [←vl_snoc,e]
   have e2:vl p % 128=(p.getLast hne).toNat-128:=by omega
   have e3:UInt8.ofNat (128+vl p % 128)=p.getLast hne:=by
    apply UInt8.toNat_inj.1
    rw [UInt8.toNat_ofNat'];omega
   rw [e1,e3,e0,ih (p:=p.dropLast) qc ⟨fun c hc=>h.on c ((List.dropLast_sublist p).subset hc),fun h1=>h.first (by rw [←e,List.head?_append,h1];rfl)⟩ _ oe]
   conv=>rhs;rw [←e]
   rw [List.append_assoc];rfl
theorem num_digits {p:List UInt8} (hon:∀c ∈ p,128≤c.toNat) {c:UInt8} (hc:c.toNat<128) (h2:vl p*128+c.toNat<18446744073709551616):(Go.Proofs.YtdlpnhfgjficgaaGreat.num (vl p*128+c.toNat)=p++[c])↔(p++[c]).head?≠some 128:=by
 constructor
 ·intro h h1
  have:=num_head _ h2 []
  rw [List.append_nil,h] at this
  exact this h1
 ·intro h
  unfold Go.Proofs.YtdlpnhfgjficgaaGreat.num
  have e:UInt8.ofNat ((vl p*128+c.toNat) % 128)=c:=by
   apply UInt8.toNat_inj.1
   rw [UInt8.toNat_ofNat'];omega
  rw [e]
  exact Dgs.num p.length rfl ⟨hon,fun h1=>h (by rw [List.head?_append,h1];rfl)⟩ _ hc _
structure RdI (l:List UInt8) (i n:Nat):Prop where
 le:i≤l.length
 le10:i≤10
 on:∀c ∈ l.take i,128≤c.toNat
 v:n=vl (l.take i)
 lt:n<18446744073709551616
 r:rdg 10 0 l=rdg (10-i) n (l.drop i)
theorem RdI.start (l:List UInt8):RdI l 0 0:=⟨Nat.zero_le _,by omega,by simp,rfl,by omega,by simp⟩
theorem take_succ_b (l:List UInt8) (k:Nat) (h:k<l.length):l.take (k+1)=l.take k++[l.getD k 0]:=by
 rw [List.take_succ_eq_append_getElem h];simp [List.getD,h]
theorem drop_b (l:List UInt8) (k:Nat) (h:k<l.length):l.drop k=l.getD k 0::l.drop (k+1):=by
 rw [List.drop_eq_getElem_cons h];simp [List.getD,h]
theorem RdI.rdg {l:List UInt8} {i n:Nat} (h:RdI l i n) (hi:i<l.length) (h10:i<10):Go.Proofs.YtdlpnhfgjficgaaGreat.rdg 10 0 l=if 18446744073709551616≤n*128 then none else if (l.getD i 0).toNat<128 then some (n*128+(l.getD i 0).toNat,l.drop (i+1)) else Go.Proofs.YtdlpnhfgjficgaaGreat.rdg (10-(i+1)) (n*128+((l.getD i 0).toNat-128)) (l.drop (i+1)):=by
 rw [h.r,drop_b l i hi,show 10-i=(10-(i+1))+1 by omega,Go.Proofs.YtdlpnhfgjficgaaGreat.rdg]
theorem RdI.end_ {l:List UInt8} {i n:Nat} (h:RdI l i n) (hi:¬(i<l.length∧i<10)):Go.Proofs.YtdlpnhfgjficgaaGreat.rdg 10 0 l=none:=by
 rw [h.r]
 by_cases h1:i<10
 ·have:l.drop i=[]:=List.drop_eq_nil_of_le oe
  rw [this,show 10-i=(9-i)+1 by omega];rfl
 ·rw [show 10-i=0 by omega];rfl
theorem RdI.over {l:List UInt8} {i n:Nat} (h:RdI l i n) (hi:i<l.length) (h10:i<10) (ho:18446744073709551616≤n*128):rdNum (some l)=(0,none):=by
 have:rnumL l=none:=by unfold rnumL;rw [h.rdg hi h10,if_pos ho];simp
 unfold rdNum;simp [this]
theorem RdI.stop {l:List UInt8} {i n:Nat} (h:RdI l i n) (hi:¬(i<l.length∧i<10)):rdNum (some l)=(0,none):=by
 have:rnumL l=none:=by unfold rnumL;rw [h.end_ hi];simp
 unfold rdNum;simp [this]
theorem head_take (l:List UInt8) (i:Nat):(l.take (i+1)).head?=l.head?:=by cases l <;> rfl
theorem RdI.bad {l:List UInt8} (h:l.head?=some 128):rdNum (some l)=(0,none):=by
 have:rnumL l=none:=by unfold rnumL;rw [if_pos h]
 unfold rdNum;simp [this]
theorem RdI.hit {l:List UInt8} {i n:Nat} (h:RdI l i n) (hi:i<l.length) (h10:i<10) (ho:¬18446744073709551616≤n*128) (hc:(l.getD i 0).toNat<128) (hf:l.head?≠some 128):rdNum (some l)=(n*128+(l.getD i 0).toNat,some (l.drop (i+1))):=by
 have:rnumL l=some (n*128+(l.getD i 0).toNat,l.drop (i+1)):=by unfold rnumL;rw [if_neg hf,h.rdg hi h10,if_neg ho,if_pos hc]
 unfold rdNum;simp [this]
theorem RdI.next {l:List UInt8} {i n:Nat} (h:RdI l i n) (hi:i<l.length) (h10:i<10) (ho:¬18446744073709551616≤n*128) (hc:¬(l.getD i 0).toNat<128):RdI l (i+1) (n*128+((l.getD i 0).toNat-128)):=by
 have hlt:=(l.getD i 0).toNat_lt
 refine ⟨by omega,by omega,fun c hc'=>?_,?_,by omega,?_⟩
 ·rw [take_succ_b l i hi,List.mem_append] at hc'
  rcases hc' with h1|h1
  ·exact h.on c h1
  ·simp only [List.mem_singleton] at h1;subst h1;omega
 ·rw [take_succ_b l i hi,vl_snoc,←h.v]
 ·rw [h.rdg hi h10,if_neg ho,if_neg hc]
theorem RdI.asks {l:List UInt8} {i n:Nat} (h:RdI l i n) (hi:i<l.length) (ho:¬18446744073709551616≤n*128) (hc:(l.getD i 0).toNat<128):Go.Proofs.YtdlpnhfgjficgaaGreat.num (n*128+(l.getD i 0).toNat)=l.take (i+1)↔l.head?≠some 128:=by
 have h2:vl (l.take i)*128+(l.getD i 0).toNat<18446744073709551616:=by rw [←h.v];omega
 have:=num_digits h.on hc h2
 rw [←h.v,←take_succ_b l i hi,head_take] at this
 exact this
end
section
open Go.RowKit Go.Maps Go.Shelf Go.Sort
theorem JOk.of_ok {B C:List Dot} (h:COk B C):JOk B C :=
 ⟨br_rise h.br,fun d hd=>by have:=h.bok d hd;unfold dok at this;omega,fun d hd=>by have:=h.cok d hd;unfold dok at this;omega,fun d hd=>wf_dok (h.bok d hd),fun d hd=>wf_dok (h.cok d hd)⟩
structure CB (n:Nat) (v0 v1:Value) (X:List Dot × List Dot) (W:World):Prop where
 b:W.heap[n]?=some (.cells #[v0,v1] 32 (0,0))
 r0:Dots W v0 X.1
 r1:Dots W v1 X.2
theorem CB.pure {n:Nat} {v0 v1:Value} {X:List Dot × List Dot} {W W' : World} (h:CB n v0 v1 X W) (hp:Pure W W'):CB n v0 v1 X W' :=
 ⟨(hp.block _ (lob h.b)).trans h.b,Row.pure h.r0 hp,Row.pure h.r1 hp⟩
theorem CB.cells {n:Nat} {v0 v1:Value} {X:List Dot × List Dot} {W:World} (h:CB n v0 v1 X W):W.cell? ⟨n,0,none⟩=some v0∧W.cell? ⟨n,1,none⟩=some v1:=⟨cob h.b 0,cob h.b 1⟩
theorem CB.made {w:World} {v0 v1:Value} {X:List Dot × List Dot} (h0:Dots w v0 X.1) (h1:Dots w v1 X.2):CB w.heap.size v0 v1 X (w.alloc (.cells #[v0,v1] 32)) :=
 ⟨ban _ _,Row.pure h0 qp,Row.pure h1 qp⟩
def DB (n:Nat) (d:Dot) (W:World):Prop:=W.heap[n]?=some (.cells #[.int .i64 d.1,.int .i64 d.2] 28 (0,0))
theorem DB.pure {n:Nat} {d:Dot} {W W' : World} (h:DB n d W) (hp:Pure W W'):DB n d W':=(hp.block _ (lob h)).trans h
theorem DB.cells {n:Nat} {d:Dot} {W:World} (h:DB n d W):W.cell? ⟨n,0,none⟩=some (.int .i64 d.1)∧W.cell? ⟨n,1,none⟩=some (.int .i64 d.2):=⟨cob h 0,cob h 1⟩
structure Sml (m:Nat) (X:List Dot × List Dot):Prop where
 ok:COk X.1 X.2
 l0:X.1.length≤m
 l1:X.2.length≤m
theorem Sml.bd {m:Nat} {X:List Dot × List Dot} (h:Sml m X):∀d ∈ X.1,0≤d.2∧d.2≤1152921504606846976:=fun d hd=>by have:=h.ok.bok d hd;unfold dok at this;omega
theorem Sml.bc {m:Nat} {X:List Dot × List Dot} (h:Sml m X):∀d ∈ X.2,d.2≤1152921504606846976:=fun d hd=>by have:=h.ok.cok d hd;unfold dok at this;omega
theorem Sml.j {m:Nat} {X:List Dot × List Dot} (h:Sml m X):JOk X.1 X.2:=JOk.of_ok h.ok
def Jn (X Y:List Dot × List Dot):List Dot × List Dot:=cjoin X.1 X.2 Y.1 Y.2
theorem Jn.ok {X Y:List Dot × List Dot} (hx:COk X.1 X.2) (hy:COk Y.1 Y.2):COk (Jn X Y).1 (Jn X Y).2:=(cjoin_ok hx.wk hy.wk).1
theorem Jn.has {X Y:List Dot × List Dot} (hx:COk X.1 X.2) (hy:COk Y.1 Y.2) (d:Dot):chas (Jn X Y).1 (Jn X Y).2 d=(chas X.1 X.2 d || chas Y.1 Y.2 d):=(cjoin_ok hx.wk hy.wk).2 d
theorem ctx_eq {X Y:List Dot × List Dot} (hx:COk X.1 X.2) (hy:COk Y.1 Y.2) (h:∀d,chas X.1 X.2 d=chas Y.1 Y.2 d):X=Y:=by
 obtain ⟨e0,e1⟩:=canon_eq hx hy h
 exact Prod.ext e0 e1
def CR (v0 v1:Value) (X:List Dot × List Dot) (W:World):Prop:=Dots W v0 X.1∧Dots W v1 X.2
theorem CR.pure {v0 v1:Value} {X:List Dot × List Dot} {W W' : World} (h:CR v0 v1 X W) (hp:Pure W W'):CR v0 v1 X W':=⟨Row.pure h.1 hp,Row.pure h.2 hp⟩
theorem CB.cr {n:Nat} {v0 v1:Value} {X:List Dot × List Dot} {W:World} (h:CB n v0 v1 X W):CR v0 v1 X W:=⟨h.r0,h.r1⟩
section
variable {x0 x1 y0 y1:Value} {X Y:List Dot × List Dot} {m n:Nat} {W:World}
end
theorem Sml.mono {m n:Nat} {X:List Dot × List Dot} (h:Sml m X) (hn:m≤n):Sml n X:=⟨h.ok,Nat.le_trans h.l0 hn,Nat.le_trans h.l1 hn⟩
section
variable {x0 x1:Value} {X:List Dot × List Dot} {m:Nat} {W:World}
def Ad (X:List Dot × List Dot) (l:List Dot):List Dot × List Dot:=cjoin X.1 X.2 [] (dsort (l.filter dchk))
def Pt (X:List Dot × List Dot) (node:Int):List Dot × List Dot:=(onode X.1 node,onode X.2 node)
theorem hasB (d:Dot) (hx:CR x0 x1 X W) (sx:Sml m X) (hl:m≤3000) :
 Calls Tryz.prog 144 #[.agg #[x0,x1],.agg #[.int .i64 d.1,.int .i64 d.2]] W fun e w'=>e=.returned (.bool (chas X.1 X.2 d))∧Pure W w' :=
 has_any x0 x1 X.1 X.2 d W hx.1 hx.2 sx.j.sb sx.ok.cr (fun d hd=>(sx.bd d hd).1) (by have:=sx.l0;omega) (by have:=sx.l1;omega)
end
theorem Ad.ok {X:List Dot × List Dot} (h:COk X.1 X.2) (l:List Dot):COk (Ad X l).1 (Ad X l).2:=(cjoin_ok h.wk (CWk.cloud (adds_ok l))).1
theorem Ad.has {X:List Dot × List Dot} (h:COk X.1 X.2) (l:List Dot) (d:Dot):chas (Ad X l).1 (Ad X l).2 d=(chas X.1 X.2 d || (decide (d ∈ l) && dchk d)):=by
 unfold Ad
 rw [(cjoin_ok h.wk (CWk.cloud (adds_ok l))).2 d]
 congr 1
 unfold chas
 have e:decide (d ∈ dsort (l.filter dchk))=(decide (d ∈ l) && dchk d):=by
  rw [Bool.eq_iff_iff,decide_eq_true_eq,(dsort_spec _).2,List.mem_filter]
  simp
 rw [e]
 cases hc:dchk d with
 | false=>simp
 | true =>
   have hd:=dchk_iff.1 hc
   have:decide (d.2≤cbase [] d.1)=false:=by
    have e0:cbase [] d.1=0:=rfl
    rw [e0];unfold dok at hd;simp;omega
   rw [this];simp
theorem Sml.ad {m:Nat} {X:List Dot × List Dot} (h:Sml m X) (l:List Dot):Sml (2*m+l.length) (Ad X l):=by
 have hl:=cjoin_len h.ok.wk (CWk.cloud (adds_ok l))
 have h3:(dsort (l.filter dchk)).length≤l.length:=Nat.le_trans (dsort_len _) (List.length_filter_le _ _)
 have:=h.l0;have:=h.l1
 simp only [List.length_nil] at hl
 exact ⟨Ad.ok h.ok l,by unfold Ad;omega,by unfold Ad;omega⟩
theorem onode_mem {l:List Dot} {x:Int} {d:Dot}:d ∈ onode l x↔d ∈ l∧d.1=x:=by unfold onode;simp [List.mem_filter]
theorem cbase_onode {B:List Dot} (h:BR B) (x y:Int):cbase (onode B x) y=if y=x then cbase B x else 0:=by
 have hr:BR (onode B x):=h.sublist List.filter_sublist
 by_cases hyx:y=x
 ·subst hyx
  rw [if_pos rfl]
  by_cases h0:cbase B y=0
  ·rw [h0]
   refine Classical.byContradiction fun hn=>?_
   have hm:=cbase_pos hn
   have:=cbase_mem h (onode_mem.1 hm).1
   dsimp only at this
   omega
  ·exact cbase_mem hr (d:=(y,cbase B y)) (onode_mem.2 ⟨cbase_pos h0,rfl⟩)
 ·rw [if_neg hyx]
  refine Classical.byContradiction fun hn=>?_
  exact hyx (onode_mem.1 (cbase_pos hn)).2
theorem Pt.ok {X:List Dot × List Dot} (h:COk X.1 X.2) (x:Int):COk (Pt X x).1 (Pt X x).2:=by
 refine ⟨h.br.sublist List.filter_sublist,fun d hd=>h.bok d (onode_mem.1 hd).1,h.cr.sublist List.filter_sublist,fun d hd=>h.cok d (onode_mem.1 hd).1,fun d hd=>?_⟩
 obtain ⟨h1,h2⟩:=onode_mem.1 hd
 have:=h.far d h1
 show cbase (onode X.1 x) d.1+1<d.2
 rw [cbase_onode h.br,h2,if_pos rfl,←h2]
 exact this
theorem Pt.has {X:List Dot × List Dot} (h:COk X.1 X.2) (x:Int) (d:Dot):chas (Pt X x).1 (Pt X x).2 d=(chas X.1 X.2 d && decide (d.1=x)):=by
 rw [Bool.eq_iff_iff,Bool.and_eq_true,chas_iff,chas_iff,decide_eq_true_eq]
 show dok d∧(d.2≤cbase (onode X.1 x) d.1∨d ∈ onode X.2 x)↔_
 rw [cbase_onode h.br,onode_mem]
 constructor
 ·rintro ⟨hd,h1|h1⟩
  ·split at h1
   ·rename_i hx
    exact ⟨⟨hd,.inl (by rw [hx];exact h1)⟩,hx⟩
   ·unfold dok at hd;omega
  ·exact ⟨⟨hd,.inr h1.1⟩,h1.2⟩
 ·rintro ⟨⟨hd,h1|h1⟩,hx⟩
  ·exact ⟨hd,.inl (by rw [if_pos hx,←hx];exact h1)⟩
  ·exact ⟨hd,.inr ⟨h1,hx⟩⟩
def Ps (X:List Dot × List Dot) (N:List Int):List Dot × List Dot:=(X.1.filter fun d=>decide (d.1 ∈ N),X.2.filter fun d=>decide (d.1 ∈ N))
theorem ps_mem {l:List Dot} {N:List Int} {d:Dot}:d ∈ l.filter (fun d=>decide (d.1 ∈ N))↔d ∈ l∧d.1 ∈ N:=by simp [List.mem_filter]
theorem cbase_ps {B:List Dot} (h:BR B) (N:List Int) (y:Int):cbase (B.filter fun d=>decide (d.1 ∈ N)) y=if y ∈ N then cbase B y else 0:=by
 have hr:BR (B.filter fun d=>decide (d.1 ∈ N)):=h.sublist List.filter_sublist
 by_cases hy:y ∈ N
 ·rw [if_pos hy]
  by_cases h0:cbase B y=0
  ·rw [h0]
   refine Classical.byContradiction fun hn=>?_
   have hm:=cbase_pos hn
   have:=cbase_mem h (ps_mem.1 hm).1
   dsimp only at this
   omega
  ·exact cbase_mem hr (d:=(y,cbase B y)) (ps_mem.2 ⟨cbase_pos h0,hy⟩)
 ·rw [if_neg hy]
  refine Classical.byContradiction fun hn=>?_
  exact hy (ps_mem.1 (cbase_pos hn)).2
theorem Ps.ok {X:List Dot × List Dot} (h:COk X.1 X.2) (N:List Int):COk (Ps X N).1 (Ps X N).2:=by
 refine ⟨h.br.sublist List.filter_sublist,fun d hd=>h.bok d (ps_mem.1 hd).1,h.cr.sublist List.filter_sublist,fun d hd=>h.cok d (ps_mem.1 hd).1,fun d hd=>?_⟩
 obtain ⟨h1,h2⟩:=ps_mem.1 hd
 have:=h.far d h1
 show cbase (X.1.filter fun d=>decide (d.1 ∈ N)) d.1+1<d.2
 rw [cbase_ps h.br,if_pos h2]
 exact this
theorem Ps.has {X:List Dot × List Dot} (h:COk X.1 X.2) (N:List Int) (d:Dot):chas (Ps X N).1 (Ps X N).2 d=(chas X.1 X.2 d && decide (d.1 ∈ N)):=by
 rw [Bool.eq_iff_iff,Bool.and_eq_true,chas_iff,chas_iff,decide_eq_true_eq]
 show dok d∧(d.2≤cbase (X.1.filter fun d=>decide (d.1 ∈ N)) d.1∨d ∈ X.2.filter fun d=>decide (d.1 ∈ N))↔_
 rw [cbase_ps h.br,ps_mem]
 constructor
 ·rintro ⟨hd,h1|h1⟩
  ·split at h1
   ·rename_i hx
    exact ⟨⟨hd,.inl h1⟩,hx⟩
   ·unfold dok at hd;omega
  ·exact ⟨⟨hd,.inr h1.1⟩,h1.2⟩
 ·rintro ⟨⟨hd,h1|h1⟩,hx⟩
  ·exact ⟨hd,.inl (by rw [if_pos hx];exact h1)⟩
  ·exact ⟨hd,.inr ⟨h1,hx⟩⟩
theorem Sml.ps {m:Nat} {X:List Dot × List Dot} (h:Sml m X) (N:List Int):Sml m (Ps X N) :=
 ⟨Ps.ok h.ok N,Nat.le_trans (List.length_filter_le _ _) h.l0,Nat.le_trans (List.length_filter_le _ _) h.l1⟩
theorem Ps.nil (X:List Dot × List Dot):Ps X []=([],[]):=by unfold Ps;simp
theorem Ps.step {X:List Dot × List Dot} (h:COk X.1 X.2) (N:List Int) (x:Int):Jn (Pt X x) (Ps X N)=Ps X (N++[x]) :=
 ctx_eq (Jn.ok (Pt.ok h x) (Ps.ok h N)) (Ps.ok h _) (fun d=>by
  rw [Jn.has (Pt.ok h x) (Ps.ok h N),Pt.has h,Ps.has h,Ps.has h]
  have e:decide (d.1 ∈ N++[x])=(decide (d.1=x) || decide (d.1 ∈ N)):=by rw [Bool.eq_iff_iff];simp [or_comm]
  rw [e,Bool.and_or_distrib_left])
theorem Ps.all {X:List Dot × List Dot} (h:COk X.1 X.2):Ps X (cnodes X.1 X.2)=X :=
 ctx_eq (Ps.ok h _) h (fun d=>by
  rw [Ps.has h,Bool.eq_iff_iff,Bool.and_eq_true,decide_eq_true_eq,(cnodes_spec X.1 X.2).2]
  constructor
  ·exact fun h=>h.1
  ·intro hd
   refine ⟨hd,?_⟩
   obtain ⟨hk,h1|h1⟩:=chas_iff.1 hd
   ·have h0:cbase X.1 d.1≠0:=by unfold dok at hk;omega
    exact ⟨_,.inl (cbase_pos h0),rfl⟩
   ·exact ⟨d,.inr h1,rfl⟩)
end
end Go.Proofs.YtdlpnhfgjficgaaGreat
