import Derived.Test.YtdlpnhfgjficgaaGreatMSa
import Derived.Lib.Bytealg
namespace Go.Proofs.YtdlpnhfgjficgaaGreat
section
open Go.RowKit Go.Maps Go.Shelf Go.Sort
def allB (n:Nat) (p:Nat→Bool):Bool:=(List.range n).all p
theorem allB_succ (n:Nat) (p:Nat→Bool):allB (n+1) p=(allB n p && p n):=by unfold allB;rw [List.range_succ,List.all_append];simp
theorem allB_iff {n:Nat} {p:Nat→Bool}:allB n p=true↔∀i,i<n→p i=true:=by unfold allB;simp [List.all_eq_true,List.mem_range]
theorem allB_false {n k:Nat} {p:Nat→Bool} (h:k<n) (hf:p k=false):allB n p=false:=by
 rw [Bool.eq_false_iff]
 intro e
 rw [allB_iff.1 e k h] at hf
 cases hf
theorem allB_next {k:Nat} {p:Nat→Bool} (h:allB k p=true) (e:p k=true):allB (k+1) p=true:=by rw [allB_succ,h,e];rfl
theorem pw_of_adj {α:Type} (R:α→α→Prop) (ht:∀a b c,R a b→R b c→R a c) (z:α):∀(l:List α),(∀k,k<l.length→k=0∨R (l.getD (k-1) z) (l.getD k z))→l.Pairwise R:=by
 intro l
 induction l with
 | nil=>intro _;exact List.Pairwise.nil
 | cons a l ih =>
   intro h
   have h1:l.Pairwise R:=ih (fun k hk=>by
    by_cases h0:k=0
    ·exact .inl h0
    ·right
     rcases h (k+1) (by simpa using hk) with e|e
     ·omega
     ·obtain ⟨j,rfl⟩ : ∃j,k=j+1:=⟨k-1,by omega⟩
      simpa using e)
   refine List.pairwise_cons.2 ⟨?_,h1⟩
   cases l with
   | nil=>intro b hb;simp at hb
   | cons b l =>
     have e:R a b:=by
      rcases h 1 qb with e|e
      ·omega
      ·simpa using e
     intro c hc
     rcases List.mem_cons.1 hc with rfl|hc
     ·exact e
     ·exact ht a b c e ((List.pairwise_cons.1 h1).1 c hc)
theorem adj_of_pw {α:Type} (R:α→α→Prop) (z:α) {l:List α} (h:l.Pairwise R) {k:Nat} (hk:k<l.length):k=0∨R (l.getD (k-1) z) (l.getD k z):=by
 by_cases h0:k=0
 ·exact .inl h0
 ·right
  have:=List.pairwise_iff_getElem.1 h (k-1) k oe hk oe
  simpa [List.getD,hk,show k-1<l.length by omega] using this
def riseAt (l:List Dot) (k:Nat):Bool:=decide (k=0) || dlt (l.getD (k-1) (0,0)) (l.getD k (0,0))
def riseb (l:List Dot):Bool:=allB l.length (riseAt l)
theorem riseb_iff {l:List Dot}:riseb l=true↔Rise l:=by
 unfold riseb
 rw [allB_iff]
 constructor
 ·intro h
  exact pw_of_adj DL (fun _ _ _=>DL.trans) (0,0) l (fun k hk=>by
   have:=h k hk
   unfold riseAt at this
   rw [Bool.or_eq_true,decide_eq_true_eq,dlt_iff] at this
   exact this)
 ·intro h k hk
  unfold riseAt
  rw [Bool.or_eq_true,decide_eq_true_eq,dlt_iff]
  exact adj_of_pw DL (0,0) h hk
def cat0 (B:List Dot) (k:Nat):Bool:=dchk (B.getD k (0,0)) && (decide (k=0) || !decide ((B.getD (k-1) (0,0)).1=(B.getD k (0,0)).1))
def cat1 (B C:List Dot) (k:Nat):Bool:=dchk (C.getD k (0,0)) && decide (cbase B (C.getD k (0,0)).1+1<(C.getD k (0,0)).2)
def cchk (B C:List Dot):Bool:=riseb B && riseb C && allB B.length (cat0 B) && allB C.length (cat1 B C)
theorem get_mem {α:Type} {l:List α} {d z:α} (h:d ∈ l):∃k,k<l.length∧l.getD k z=d:=by
 obtain ⟨k,hk,rfl⟩:=List.getElem_of_mem h
 exact ⟨k,hk,by simp [List.getD,hk]⟩
theorem mem_of_get {α:Type} {l:List α} {z:α} {k:Nat} (h:k<l.length):l.getD k z ∈ l:=by simp [List.getD,h]
theorem cchk_iff {B C:List Dot}:cchk B C=true↔COk B C:=by
 unfold cchk
 rw [Bool.and_eq_true,Bool.and_eq_true,Bool.and_eq_true,riseb_iff,riseb_iff,allB_iff,allB_iff]
 constructor
 ·rintro ⟨⟨⟨h1,h2⟩,h3⟩,h4⟩
  have k3:∀k,k<B.length→dok (B.getD k (0,0))∧(k=0∨(B.getD (k-1) (0,0)).1≠(B.getD k (0,0)).1):=fun k hk=>by
   have:=h3 k hk
   unfold cat0 at this
   rw [Bool.and_eq_true,dchk_iff,Bool.or_eq_true,decide_eq_true_eq,Bool.not_eq_true',decide_eq_false_iff_not] at this
   exact this
  have k4:∀k,k<C.length→dok (C.getD k (0,0))∧cbase B (C.getD k (0,0)).1+1<(C.getD k (0,0)).2:=fun k hk=>by
   have:=h4 k hk
   unfold cat1 at this
   rw [Bool.and_eq_true,dchk_iff,decide_eq_true_eq] at this
   exact this
  refine ⟨?_,fun d hd=>?_,h2,fun d hd=>?_,fun d hd=>?_⟩
  ·refine pw_of_adj (fun a b:Dot=>a.1<b.1) (fun _ _ _ h k=>Int.lt_trans h k) (0,0) B (fun k hk=>?_)
   rcases (k3 k hk).2 with h|h
   ·exact .inl h
   ·rcases adj_of_pw DL (0,0) h1 hk with e|e
    ·exact .inl e
    ·unfold DL at e
     right;omega
  ·obtain ⟨k,hk,rfl⟩:=get_mem (z:=((0,0):Dot)) hd
   exact (k3 k hk).1
  ·obtain ⟨k,hk,rfl⟩:=get_mem (z:=((0,0):Dot)) hd
   exact (k4 k hk).1
  ·obtain ⟨k,hk,rfl⟩:=get_mem (z:=((0,0):Dot)) hd
   exact (k4 k hk).2
 ·intro h
  refine ⟨⟨⟨br_rise h.br,h.cr⟩,fun k hk=>?_⟩,fun k hk=>?_⟩
  ·unfold cat0
   rw [Bool.and_eq_true,dchk_iff,Bool.or_eq_true,decide_eq_true_eq,Bool.not_eq_true',decide_eq_false_iff_not]
   refine ⟨h.bok _ (mem_of_get hk),?_⟩
   rcases adj_of_pw (fun a b:Dot=>a.1<b.1) (0,0) h.br hk with e|e
   ·exact .inl e
   ·right;omega
  ·unfold cat1
   rw [Bool.and_eq_true,dchk_iff,decide_eq_true_eq]
   exact ⟨h.cok _ (mem_of_get hk),h.far _ (mem_of_get hk)⟩
def bat (g:Bag) (k:Nat):Bool:=mmay (g.1.getD k m0) && chas g.2.1 g.2.2 (g.1.getD k m0).1 && (decide (k=0) || dlt (g.1.getD (k-1) m0).1 (g.1.getD k m0).1)
def bchk (g:Bag):Bool:=cchk g.2.1 g.2.2 && allB g.1.length (bat g)
structure BV (g:Bag):Prop where
 ok:COk g.2.1 g.2.2
 r:MR g.1
 seen:∀m ∈ g.1,chas g.2.1 g.2.2 m.1=true
 may:∀m ∈ g.1,mmay m=true
theorem BOk.bv {U:List Dot} {g:Bag} (h:BOk U g):BV g:=⟨h.ok,h.r,h.seen,h.may⟩
theorem bchk_iff {g:Bag}:bchk g=true↔BV g:=by
 unfold bchk
 rw [Bool.and_eq_true,cchk_iff,allB_iff]
 constructor
 ·rintro ⟨h1,h2⟩
  have k2:∀k,k<g.1.length→(mmay (g.1.getD k m0)=true∧chas g.2.1 g.2.2 (g.1.getD k m0).1=true)∧(k=0∨DL (g.1.getD (k-1) m0).1 (g.1.getD k m0).1):=fun k hk=>by
   have:=h2 k hk
   unfold bat at this
   rw [Bool.and_eq_true,Bool.and_eq_true,Bool.or_eq_true,decide_eq_true_eq,dlt_iff] at this
   exact this
  refine ⟨h1,pw_of_adj (fun x y:Msg=>DL x.1 y.1) (fun _ _ _=>DL.trans) m0 g.1 (fun k hk=>(k2 k hk).2),fun m hm=>?_,fun m hm=>?_⟩
  ·obtain ⟨k,hk,rfl⟩:=get_mem (z:=m0) hm
   exact (k2 k hk).1.2
  ·obtain ⟨k,hk,rfl⟩:=get_mem (z:=m0) hm
   exact (k2 k hk).1.1
 ·intro h
  refine ⟨h.ok,fun k hk=>?_⟩
  unfold bat
  rw [Bool.and_eq_true,Bool.and_eq_true,Bool.or_eq_true,decide_eq_true_eq,dlt_iff]
  exact ⟨⟨h.may _ (mem_of_get hk),h.seen _ (mem_of_get hk)⟩,adj_of_pw (fun x y:Msg=>DL x.1 y.1) m0 h.r hk⟩
def rdItems {α:Type} (f:RS→α × RS):Nat→List α→RS→List α × RS
 | 0,acc,s=>(acc,s)
 | k+1,acc,s=>match f s with
   | (_,none)=>([],none)
   | (x,some r)=>rdItems f k (acc++[x]) (some r)
theorem rdItems_len {α:Type} (f:RS→α × RS):∀(k:Nat) (acc:List α) (s:RS),(rdItems f k acc s).1.length≤acc.length+k
 | 0,acc,s=>by simp [rdItems]
 | k+1,acc,s=>by
   rw [rdItems]
   split
   ·simp
   ·have:=rdItems_len f k (acc++[‹α›]) (some ‹_›)
    simp at this;omega
theorem rdItems_torn {α:Type} (f:RS→α × RS) (k:Nat) (acc:List α) (s:RS) (x:α) (h:f s=(x,none)):rdItems f (k+1) acc s=([],none):=by rw [rdItems,h]
theorem rdItems_fine {α:Type} (f:RS→α × RS) (k:Nat) (acc:List α) (s:RS) (x:α) (r:List UInt8) (h:f s=(x,some r)):rdItems f (k+1) acc s=rdItems f k (acc++[x]) (some r):=by rw [rdItems,h]
theorem rdItems_all {α:Type} (f:RS→α × RS) (enc:α→List UInt8):∀(l acc:List α) (r:List UInt8),(∀x ∈ l,∀r,f (some (enc x++r))=(x,some r))→rdItems f l.length acc (some (l.flatMap enc++r))=(acc++l,some r)
 | [],acc,r,_=>by simp [rdItems]
 | x::l,acc,r,h=>by
   rw [List.length_cons,List.flatMap_cons,List.append_assoc,rdItems_fine f _ _ _ x _ (h x qb _),rdItems_all f enc l (acc++[x]) r (fun y hy=>h y (by simp [hy])),List.append_assoc];rfl
abbrev M40:Int:=1099511627776
def rdDot (s:RS):Dot × RS :=
 match rdInt M40 (rdInt M40 s).2 with
 | (_,none)=>((0,0),none)
 | (y,some r)=>if dchk ((rdInt M40 s).1,y) then (((rdInt M40 s).1,y),some r) else ((0,0),none)
def rdRow (most:Int) (s:RS):List Dot × RS :=
 match rdItems rdDot (rdInt most s).1.toNat [] (rdInt most s).2 with
 | (_,none)=>([],none)
 | (l,some r)=>if riseb l then (l,some r) else ([],none)
def rdCtx (s:RS):(List Dot × List Dot) × RS :=
 match rdRow 1000 (rdRow 1000 s).2 with
 | (_,none)=>(([],[]),none)
 | (C,some r)=>if cchk (rdRow 1000 s).1 C then (((rdRow 1000 s).1,C),some r) else (([],[]),none)
def rdMsg (s:RS):Msg × RS :=
 (((rdDot s).1,(rdX 1000 (rdDot s).2).1,(rdX 1000 (rdX 1000 (rdDot s).2).2).1,(rdInt 1048576 (rdX 1000 (rdX 1000 (rdDot s).2).2).2).1),(rdInt 1048576 (rdX 1000 (rdX 1000 (rdDot s).2).2).2).2)
def rdBag (s:RS):Bag × RS :=
 match rdItems rdMsg (rdInt 1000 (rdCtx s).2).1.toNat [] (rdInt 1000 (rdCtx s).2).2 with
 | (_,none)=>(([],[],[]),none)
 | (l,some r)=>if bchk (l,(rdCtx s).1) then ((l,(rdCtx s).1),some r) else (([],[],[]),none)
theorem rdDot_bytes {d:Dot} (h:dok d) (r:List UInt8):rdDot (some (dotB d++r))=(d,some r):=by
 have hd:=dchk_iff.2 h
 unfold dok at h
 unfold rdDot dotB
 rw [List.append_assoc,rdInt_num _ d.1.toNat (by show _≤(1099511627776:Int);omega) oe]
 dsimp only
 rw [rdInt_num _ d.2.toNat (by show _≤(1099511627776:Int);omega) oe]
 dsimp only
 rw [Int.toNat_of_nonneg oe,Int.toNat_of_nonneg oe,if_pos hd]
theorem rdRow_bytes {l:List Dot} (h:∀d ∈ l,dok d) (hr:Rise l) (hl:l.length≤1000) (r:List UInt8):rdRow 1000 (some (rowB l++r))=(l,some r):=by
 unfold rdRow rowB
 rw [List.append_assoc,rdInt_num _ l.length oe oe]
 dsimp only
 rw [Int.toNat_natCast,rdItems_all rdDot dotB l [] r (fun d hd r=>rdDot_bytes (h d hd) r)]
 dsimp only
 rw [List.nil_append,if_pos (riseb_iff.2 hr)]
theorem rdCtx_bytes {B C:List Dot} (h:COk B C) (h1:B.length≤1000) (h2:C.length≤1000) (r:List UInt8):rdCtx (some (ctxB B C++r))=((B,C),some r):=by
 unfold rdCtx ctxB
 rw [List.append_assoc,rdRow_bytes h.bok (br_rise h.br) h1]
 dsimp only
 rw [rdRow_bytes h.cok h.cr h2]
 dsimp only
 rw [if_pos (cchk_iff.2 h)]
theorem rdMsg_bytes {m:Msg} (h:mmay m=true) (r:List UInt8):rdMsg (some (msgB m++r))=(m,some r):=by
 unfold mmay at h
 simp only [Bool.and_eq_true,decide_eq_true_eq] at h
 obtain ⟨⟨⟨⟨⟨h1,h2⟩,h3⟩,h4⟩,h5⟩,h6⟩:=h
 unfold rdMsg msgB
 rw [List.append_assoc,List.append_assoc,List.append_assoc,rdDot_bytes (dchk_iff.1 h1)]
 dsimp only
 rw [rdText_text _ m.2.1 oe oe]
 dsimp only
 rw [rdText_text _ m.2.2.1 oe oe]
 dsimp only
 rw [rdInt_num _ m.2.2.2.toNat oe oe,Int.toNat_of_nonneg h5]
theorem rdBag_bytes {g:Bag} (h:BV g) (h0:g.1.length≤1000) (h1:g.2.1.length≤1000) (h2:g.2.2.length≤1000) (r:List UInt8):rdBag (some (bagB g++r))=(g,some r):=by
 unfold rdBag bagB
 rw [List.append_assoc,List.append_assoc,rdCtx_bytes h.ok h1 h2]
 dsimp only
 rw [rdInt_num _ g.1.length oe oe]
 dsimp only
 rw [Int.toNat_natCast,rdItems_all rdMsg msgB g.1 [] r (fun m hm r=>rdMsg_bytes (h.may m hm) r)]
 dsimp only
 rw [List.nil_append,if_pos (bchk_iff.2 h)]
theorem rdRow_len (s:RS):(rdRow 1000 s).1.length≤1000:=by
 unfold rdRow
 have h:=rdItems_len rdDot (rdInt 1000 s).1.toNat [] (rdInt 1000 s).2
 have hb:=(rdInt_bd 1000 s).2 oe
 split
 ·simp
 ·rename_i l r e
  rw [e] at h
  split
  ·simp at h ⊢;omega
  ·simp
theorem rdCtx_len (s:RS):(rdCtx s).1.1.length≤1000∧(rdCtx s).1.2.length≤1000:=by
 unfold rdCtx
 have h1:=rdRow_len s
 have h2:=rdRow_len (rdRow 1000 s).2
 split
 ·exact ⟨Nat.zero_le _,Nat.zero_le _⟩
 ·rename_i C r e
  rw [e] at h2
  split
  ·exact ⟨h1,h2⟩
  ·exact ⟨Nat.zero_le _,Nat.zero_le _⟩
theorem BV.nil:BV ([],[],[]):=⟨COk.nil,List.Pairwise.nil,by simp,by simp⟩
theorem rdBag_ok (s:RS):BV (rdBag s).1:=by
 unfold rdBag
 split
 ·exact BV.nil
 ·split
  ·rename_i h;exact bchk_iff.1 h
  ·exact BV.nil
end
section
open Go.RowKit Go.Maps Go.Shelf Go.Sort
def tlt (a b:List UInt8):Bool:=Op.bytesLess a b
theorem tlt_nil_r (a:List UInt8):tlt a []=false:=by cases a <;> rfl
theorem tlt_cons (a b:UInt8) (r s:List UInt8):tlt (a::r) (b::s)=(decide (a<b) || (a == b && tlt r s)):=rfl
theorem tlt_irrefl:∀a,tlt a a=false
 | []=>rfl
 | a::r=>by rw [tlt_cons,tlt_irrefl r];simp
theorem tlt_trans:∀a b c,tlt a b=true→tlt b c=true→tlt a c=true
 | _,[],_,h,_=>by rw [tlt_nil_r] at h;cases h
 | _,_::_,[],_,h=>by rw [tlt_nil_r] at h;cases h
 | [],_::_,_::_,_,_=>rfl
 | a::r,b::s,c::t,h1,h2=>by
   rw [tlt_cons] at *
   simp only [Bool.or_eq_true,decide_eq_true_eq,Bool.and_eq_true,beq_iff_eq] at *
   rcases h1 with h1|⟨rfl,h1⟩ <;> rcases h2 with h2|⟨rfl,h2⟩
   ·exact .inl (UInt8.lt_trans h1 h2)
   ·exact .inl h1
   ·exact .inl h2
   ·exact .inr ⟨rfl,tlt_trans r s t h1 h2⟩
theorem tlt_total:∀a b,tlt a b=false→tlt b a=false→a=b
 | [],[],_,_=>rfl
 | [],_::_,h,_=>by cases h
 | _::_,[],_,h=>by cases h
 | a::r,b::s,h1,h2=>by
   rw [tlt_cons] at *
   simp only [Bool.or_eq_false_iff,decide_eq_false_iff_not,Bool.and_eq_false_iff,beq_eq_false_iff_ne,ne_eq] at *
   have e:a=b:=UInt8.le_antisymm (UInt8.not_lt.1 h2.1) (UInt8.not_lt.1 h1.1)
   subst e
   rw [tlt_total r s (h1.2.resolve_left (fun h=>h rfl)) (h2.2.resolve_left (fun h=>h rfl))]
theorem tlt_cmp:∀a b,tlt a b=decide (Lib.compareBytes a b<0)
 | [],[]=>rfl
 | [],_::_=>rfl
 | _::_,[]=>rfl
 | a::r,b::s=>by
   have ih:=tlt_cmp r s
   have e:Lib.compareBytes (a::r) (b::s)=if a<b then -1 else if b<a then 1 else Lib.compareBytes r s:=by rw [Lib.compareBytes]
   rw [tlt_cons,ih,e]
   by_cases h1:a<b
   ·simp [h1]
   ·by_cases h2:b<a
    ·have:¬a=b:=fun e=>by subst e;exact h1 h2
     simp [h1,h2,this]
    ·have:a=b:=UInt8.le_antisymm (UInt8.not_lt.1 h2) (UInt8.not_lt.1 h1)
     subst this
     simp [h1]
def qlt (m n:Msg):Bool:=tlt m.2.1 n.2.1 || (decide (m.2.1=n.2.1) && tlt m.2.2.1 n.2.2.1)
theorem qlt_iff {m n:Msg}:qlt m n=true↔tlt m.2.1 n.2.1=true∨(m.2.1=n.2.1∧tlt m.2.2.1 n.2.2.1=true):=by
 unfold qlt;rw [Bool.or_eq_true,Bool.and_eq_true,decide_eq_true_eq]
theorem qlt_irrefl (m:Msg):qlt m m=false:=by unfold qlt;rw [tlt_irrefl,tlt_irrefl];simp
theorem qlt_trans {a b c:Msg} (h1:qlt a b=true) (h2:qlt b c=true):qlt a c=true:=by
 rw [qlt_iff] at *
 rcases h1 with h1|⟨e1,h1⟩ <;> rcases h2 with h2|⟨e2,h2⟩
 ·exact .inl (tlt_trans _ _ _ h1 h2)
 ·exact .inl (e2 ▸ h1)
 ·exact .inl (e1.symm ▸ h2)
 ·exact .inr ⟨e1.trans e2,tlt_trans _ _ _ h1 h2⟩
theorem qlt_total {a b:Msg} (h1:qlt a b=false) (h2:qlt b a=false):a.2.1=b.2.1∧a.2.2.1=b.2.2.1:=by
 unfold qlt at *
 simp only [Bool.or_eq_false_iff,Bool.and_eq_false_iff,decide_eq_false_iff_not] at *
 have e:=tlt_total _ _ h1.1 h2.1
 exact ⟨e,tlt_total _ _ (h1.2.resolve_left (fun h=>h e)) (h2.2.resolve_left (fun h=>h e.symm))⟩
def bothM (a b:Msg):Msg:=if qlt b a then (b.1,b.2.1,b.2.2.1,max a.2.2.2 b.2.2.2) else (a.1,a.2.1,a.2.2.1,max a.2.2.2 b.2.2.2)
theorem bothM_name {a b:Msg} (h:a.1=b.1):(bothM a b).1=a.1:=by unfold bothM;split <;> simp [h]
theorem bothM_comm {a b:Msg} (h:a.1=b.1):bothM a b=bothM b a:=by
 unfold bothM
 cases h1:qlt b a <;> cases h2:qlt a b
 ·obtain ⟨e1,e2⟩:=qlt_total h1 h2
  simp [h,e1,e2,Int.max_comm]
 ·simp [Int.max_comm]
 ·simp [Int.max_comm]
 ·have:=qlt_trans h1 h2
  rw [qlt_irrefl] at this;cases this
theorem bothM_may {a b:Msg} (ha:mmay a=true) (hb:mmay b=true):mmay (bothM a b)=true:=by
 unfold mmay bothM at *
 simp only [Bool.and_eq_true,decide_eq_true_eq] at *
 obtain ⟨⟨⟨⟨⟨a1,a2⟩,a3⟩,a4⟩,a5⟩,a6⟩:=ha
 obtain ⟨⟨⟨⟨⟨b1,b2⟩,b3⟩,b4⟩,b5⟩,b6⟩:=hb
 split <;> dsimp only
 ·exact ⟨⟨⟨⟨⟨b1,b2⟩,b3⟩,b4⟩,by omega⟩,by omega⟩
 ·exact ⟨⟨⟨⟨⟨a1,a2⟩,a3⟩,a4⟩,by omega⟩,by omega⟩
def lget (l:List Msg) (d:Dot):Option Msg:=l.find? fun m=>decide (m.1=d)
theorem lget_some {l:List Msg} {d:Dot} {m:Msg} (h:lget l d=some m):m ∈ l∧m.1=d:=by
 have h1:=List.mem_of_find?_eq_some h
 have h2:=List.find?_some h
 exact ⟨h1,by simpa using h2⟩
theorem lget_none {l:List Msg} {d:Dot}:lget l d=none↔∀m ∈ l,m.1≠d:=by
 unfold lget;rw [List.find?_eq_none];simp
theorem MR.get {l:List Msg} (h:MR l) {m:Msg}:m ∈ l↔lget l m.1=some m:=by
 constructor
 ·intro hm
  cases e:lget l m.1 with
  | none=>exact absurd rfl (lget_none.1 e m hm)
  | some x =>
    obtain ⟨h1,h2⟩:=lget_some e
    rw [h.one h1 hm h2]
 ·intro e;exact (lget_some e).1
theorem mr_ext {l k:List Msg} (hl:MR l) (hk:MR k) (h:∀d,lget l d=lget k d):l=k :=
 mr_eq hl hk (fun d=>by rw [hl.get,hk.get,h])
def jof (a:Option Msg) (ca:Bool) (b:Option Msg) (cb:Bool):Option Msg :=
 match a,b with
 | some x,some y=>some (bothM x y)
 | some x,none=>if cb then none else some x
 | none,some y=>if ca then none else some y
 | none,none=>none
def jl1 (l k:List Msg) (ck:Dot→Bool):List Msg:=l.flatMap fun m=>match lget k m.1 with
 | some o=>[bothM m o]
 | none=>if ck m.1 then [] else [m]
def jl2 (k:List Msg) (cl:Dot→Bool):List Msg:=k.filter fun m=>!cl m.1
def bjoin (g h:Bag):Bag:=(msort (jl1 g.1 h.1 (chas h.2.1 h.2.2)++jl2 h.1 (chas g.2.1 g.2.2)),Jn g.2 h.2)
theorem jl1_mem {l k:List Msg} {ck:Dot→Bool} {m:Msg}:m ∈ jl1 l k ck↔∃a ∈ l,(∃o,lget k a.1=some o∧m=bothM a o)∨(lget k a.1=none∧ck a.1=false∧m=a):=by
 unfold jl1
 rw [List.mem_flatMap]
 refine exists_congr fun a=>and_congr_right fun _=>?_
 cases e:lget k a.1 with
 | some o=>simp
 | none=>by_cases hc:ck a.1=true <;> simp [hc]
theorem jl1_name {l k:List Msg} {ck:Dot→Bool} {m:Msg} (h:m ∈ jl1 l k ck):∃a ∈ l,m.1=a.1:=by
 obtain ⟨a,ha,⟨o,h1,rfl⟩|⟨_,_,rfl⟩⟩:=jl1_mem.1 h
 ·exact ⟨a,ha,bothM_name (lget_some h1).2.symm⟩
 ·exact ⟨_,ha,rfl⟩
theorem jl1_md {l:List Msg} (k:List Msg) (ck:Dot→Bool) (h:MD l):MD (jl1 l k ck):=by
 induction l with
 | nil=>exact List.Pairwise.nil
 | cons a l ih =>
   obtain ⟨h1,h2⟩:=List.pairwise_cons.1 h
   have e:jl1 (a::l) k ck=jl1 [a] k ck++jl1 l k ck:=by simp [jl1]
   have e1:(jl1 [a] k ck).length≤1:=by
    unfold jl1
    simp only [List.flatMap_cons,List.flatMap_nil,List.append_nil]
    split
    ·simp
    ·split <;> simp
   rw [e]
   unfold MD
   rw [List.pairwise_append]
   refine ⟨?_,ih h2,fun x hx y hy he=>?_⟩
   ·match jl1 [a] k ck,e1 with
    | [],_=>exact List.Pairwise.nil
    | [x],_=>exact List.pairwise_singleton _ _
   ·obtain ⟨a',ha',e2⟩:=jl1_name hx
    obtain ⟨b',hb',e3⟩:=jl1_name hy
    simp only [List.mem_singleton] at ha'
    subst ha'
    exact h1 b' hb' (by rw [←e2,←e3];exact he)
theorem BOk.md {U V:List Dot} {g h:Bag} (hg:BOk U g) (hh:BOk V h):MD (jl1 g.1 h.1 (chas h.2.1 h.2.2)++jl2 h.1 (chas g.2.1 g.2.2)):=by
 unfold MD
 rw [List.pairwise_append]
 refine ⟨jl1_md _ _ hg.r.md,List.Pairwise.sublist List.filter_sublist hh.r.md,fun x hx y hy e=>?_⟩
 obtain ⟨a,ha,e1⟩:=jl1_name hx
 have h1:=(List.mem_filter.1 hy).2
 have h2:=hg.seen a ha
 rw [←e1,e] at h2
 rw [h2] at h1;cases h1
theorem lget_msort {l:List Msg} (h:MD l) (d:Dot):lget (msort l) d=lget l d:=by
 cases e:lget l d with
 | none =>
   rw [lget_none] at e ⊢
   exact fun m hm=>e m ((msort_mem l m).1 hm)
 | some x =>
   obtain ⟨h1,rfl⟩:=lget_some e
   exact (msort_rise h).get.1 ((msort_mem l x).2 h1)
theorem lget_append (l k:List Msg) (d:Dot):lget (l++k) d=(lget l d).or (lget k d):=by unfold lget;rw [List.find?_append]
theorem lget_jl1 (k:List Msg) (ck:Dot→Bool) (d:Dot):∀l:List Msg,MD l→lget (jl1 l k ck) d=match lget l d with
  | none=>none
  | some a=>match lget k d with
    | some o=>some (bothM a o)
    | none=>if ck d then none else some a
 | [],_=>rfl
 | a::l,h=>by
   obtain ⟨h1,h2⟩:=List.pairwise_cons.1 h
   have ih:=lget_jl1 k ck d l h2
   have e:jl1 (a::l) k ck=jl1 [a] k ck++jl1 l k ck:=by simp [jl1]
   rw [e,lget_append]
   by_cases hd:a.1=d
   ·have e0:lget (a::l) d=some a:=by simp [lget,hd]
    have en:lget (jl1 l k ck) d=none:=by
     rw [lget_none]
     intro m hm em
     obtain ⟨b,hb,e2⟩:=jl1_name hm
     exact h1 b hb (by rw [hd,←em,e2])
    rw [e0,en]
    subst hd
    dsimp only
    unfold jl1
    simp only [List.flatMap_cons,List.flatMap_nil,List.append_nil]
    cases eo:lget k a.1 with
    | some o=>simp [lget,bothM_name (lget_some eo).2.symm]
    | none =>
      by_cases hc:ck a.1=true
      ·simp [lget,hc]
      ·simp [lget,hc]
   ·have e0:lget (a::l) d=lget l d:=by simp [lget,hd]
    have en:lget (jl1 [a] k ck) d=none:=by
     rw [lget_none]
     intro m hm em
     obtain ⟨b,hb,e2⟩:=jl1_name hm
     simp only [List.mem_singleton] at hb
     subst hb
     exact hd (by rw [←e2,em])
    rw [e0,en,ih];rfl
theorem lget_jl2 (k:List Msg) (cl:Dot→Bool) (d:Dot):lget (jl2 k cl) d=if cl d then none else lget k d:=by
 unfold jl2 lget
 rw [List.find?_filter]
 by_cases hc:cl d=true
 ·rw [if_pos hc,List.find?_eq_none]
  intro m _ h
  simp only [Bool.and_eq_true,Bool.not_eq_true',decide_eq_true_eq,Bool.decide_and] at h
  obtain ⟨h1,h2⟩:=h
  rw [h2,hc] at h1;cases h1
 ·rw [if_neg hc]
  congr 1
  funext m
  by_cases hm:m.1=d
  ·simp [hm,hc]
  ·simp [hm]
theorem BOk.get_seen {U:List Dot} {g:Bag} (h:BOk U g) {d:Dot} {m:Msg} (e:lget g.1 d=some m):chas g.2.1 g.2.2 d=true:=by
 obtain ⟨h1,rfl⟩:=lget_some e
 exact h.seen m h1
theorem bjoin_get {U V:List Dot} {g h:Bag} (hg:BOk U g) (hh:BOk V h) (d:Dot):lget (bjoin g h).1 d=jof (lget g.1 d) (chas g.2.1 g.2.2 d) (lget h.1 d) (chas h.2.1 h.2.2 d):=by
 unfold bjoin
 dsimp only
 rw [lget_msort (hg.md hh),lget_append,lget_jl1 _ _ _ _ hg.r.md,lget_jl2]
 unfold jof
 cases e1:lget g.1 d with
 | none =>
   cases e2:lget h.1 d with
   | none=>simp
   | some y=>simp
 | some x =>
   have hs:=hg.get_seen e1
   cases e2:lget h.1 d with
   | none =>
     by_cases hc:chas h.2.1 h.2.2 d=true <;> simp [hc,hs]
   | some y=>simp [hs]
theorem bjoin_has {U V:List Dot} {g h:Bag} (hg:BOk U g) (hh:BOk V h) (d:Dot):chas (bjoin g h).2.1 (bjoin g h).2.2 d=(chas g.2.1 g.2.2 d || chas h.2.1 h.2.2 d):=Jn.has hg.ok hh.ok d
theorem BOk.join {U:List Dot} {g h:Bag} (hg:BOk U g) (hh:BOk U h):BOk U (bjoin g h):=by
 have hmem:∀m ∈ (bjoin g h).1,(∃a ∈ g.1,∃o ∈ h.1,a.1=o.1∧m=bothM a o)∨m ∈ g.1∨m ∈ h.1:=fun m hm=>by
  have hm':=(msort_mem _ m).1 hm
  rcases List.mem_append.1 hm' with hm'|hm'
  ·obtain ⟨a,ha,⟨o,h1,h2⟩|⟨_,_,rfl⟩⟩:=jl1_mem.1 hm'
   ·exact .inl ⟨a,ha,o,(lget_some h1).1,(lget_some h1).2.symm,h2⟩
   ·exact .inr (.inl ha)
  ·exact .inr (.inr (List.mem_filter.1 hm').1)
 refine ⟨Jn.ok hg.ok hh.ok,msort_rise (hg.md hh),fun m hm=>?_,fun d hd=>?_,fun m hm=>?_⟩
 ·rw [bjoin_has hg hh,Bool.or_eq_true]
  rcases hmem m hm with ⟨a,ha,o,ho,e,rfl⟩|h1|h1
  ·left;rw [bothM_name e];exact hg.seen a ha
  ·exact .inl (hg.seen m h1)
  ·exact .inr (hh.seen m h1)
 ·rw [bjoin_has hg hh,Bool.or_eq_true] at hd
  rcases hd with hd|hd
  ·exact hg.ti d hd
  ·exact hh.ti d hd
 ·rcases hmem m hm with ⟨a,ha,o,ho,e,rfl⟩|h1|h1
  ·exact bothM_may (hg.may a ha) (hh.may o ho)
  ·exact hg.may m h1
  ·exact hh.may m h1
theorem bag_ext_get {U V:List Dot} {g h:Bag} (hg:BOk U g) (hh:BOk V h) (h1:∀d,chas g.2.1 g.2.2 d=chas h.2.1 h.2.2 d) (h2:∀d,lget g.1 d=lget h.1 d):g=h :=
 Prod.ext (mr_ext hg.r hh.r h2) (ctx_eq hg.ok hh.ok h1)
theorem bjoin_comm {U:List Dot} {g h:Bag} (hg:BOk U g) (hh:BOk U h):bjoin g h=bjoin h g :=
 bag_ext_get (hg.join hh) (hh.join hg) (fun d=>by rw [bjoin_has hg hh,bjoin_has hh hg,Bool.or_comm]) (fun d=>by
  rw [bjoin_get hg hh,bjoin_get hh hg]
  unfold jof
  cases e1:lget g.1 d with
  | none=>cases e2:lget h.1 d <;> rfl
  | some x =>
    cases e2:lget h.1 d with
    | none=>rfl
    | some y=>simp only;rw [bothM_comm ((lget_some e1).2.trans (lget_some e2).2.symm)])
theorem bjoin_nil {U:List Dot} {g:Bag} (hg:BOk U g):bjoin g ([],[],[])=g :=
 bag_ext_get (hg.join (BOk.nil U)) hg (fun d=>by
  rw [bjoin_has hg (BOk.nil U)]
  have:chas ([]:List Dot) [] d=false:=by
   rw [Bool.eq_false_iff];intro h;exact absurd ((BOk.nil []).ti d h) qb
  rw [this,Bool.or_false]) (fun d=>by
  have:chas ([]:List Dot) [] d=false:=by
   rw [Bool.eq_false_iff];intro h;exact absurd ((BOk.nil []).ti d h) qb
  rw [bjoin_get hg (BOk.nil U),this]
  unfold jof
  cases lget g.1 d <;> rfl)
def alo (c:Dot→Bool) (m:Msg):List Msg:=if c m.1 then [] else [m]
def bmrg (cg ch:Dot→Bool):List Msg→List Msg→List Msg
 | [],[]=>[]
 | a::l,[]=>alo ch a++bmrg cg ch l []
 | [],b::k=>alo cg b++bmrg cg ch [] k
 | a::l,b::k=>if dlt a.1 b.1 then alo ch a++bmrg cg ch l (b::k) else if a.1≠b.1 then alo cg b++bmrg cg ch (a::l) k else bothM a b::bmrg cg ch l k
termination_by l k=>l.length+k.length
theorem alo_mem {c:Dot→Bool} {a m:Msg}:m ∈ alo c a↔m=a∧c a.1=false:=by
 unfold alo;by_cases h:c a.1=true <;> simp [h]
theorem bmrg_name (cg ch:Dot→Bool):∀(l k:List Msg) (m:Msg),m ∈ bmrg cg ch l k→∃a,(a ∈ l∨a ∈ k)∧m.1=a.1
 | [],[],m,h=>by rw [bmrg] at h;simp at h
 | a::l,[],m,h=>by
   rw [bmrg] at h
   rcases List.mem_append.1 h with h|h
   ·exact ⟨a,.inl qb,by rw [(alo_mem.1 h).1]⟩
   ·obtain ⟨x,hx,e⟩:=bmrg_name cg ch l [] m h
    exact ⟨x,by rcases hx with hx|hx;exact .inl (List.mem_cons_of_mem _ hx);simp at hx,e⟩
 | [],b::k,m,h=>by
   rw [bmrg] at h
   rcases List.mem_append.1 h with h|h
   ·exact ⟨b,.inr qb,by rw [(alo_mem.1 h).1]⟩
   ·obtain ⟨x,hx,e⟩:=bmrg_name cg ch [] k m h
    exact ⟨x,by rcases hx with hx|hx;simp at hx;exact .inr (List.mem_cons_of_mem _ hx),e⟩
 | a::l,b::k,m,h=>by
   rw [bmrg] at h
   split at h
   ·rcases List.mem_append.1 h with h|h
    ·exact ⟨a,.inl qb,by rw [(alo_mem.1 h).1]⟩
    ·obtain ⟨x,hx,e⟩:=bmrg_name cg ch l (b::k) m h
     exact ⟨x,by rcases hx with hx|hx;exact .inl (List.mem_cons_of_mem _ hx);exact .inr hx,e⟩
   ·split at h
    ·rcases List.mem_append.1 h with h|h
     ·exact ⟨b,.inr qb,by rw [(alo_mem.1 h).1]⟩
     ·obtain ⟨x,hx,e⟩:=bmrg_name cg ch (a::l) k m h
      exact ⟨x,by rcases hx with hx|hx;exact .inl hx;exact .inr (List.mem_cons_of_mem _ hx),e⟩
    ·rename_i hne
     rcases List.mem_cons.1 h with rfl|h
     ·exact ⟨a,.inl qb,bothM_name (by simpa using hne)⟩
     ·obtain ⟨x,hx,e⟩:=bmrg_name cg ch l k m h
      exact ⟨x,by rcases hx with hx|hx;exact .inl (List.mem_cons_of_mem _ hx);exact .inr (List.mem_cons_of_mem _ hx),e⟩
termination_by l k=>l.length+k.length
theorem MR.cons_alo {c:Dot→Bool} {a:Msg} {l:List Msg} (h:∀m ∈ l,DL a.1 m.1) (hl:MR l):MR (alo c a++l):=by
 unfold alo
 split
 ·exact hl
 ·exact List.pairwise_cons.2 ⟨h,hl⟩
theorem bmrg_rise (cg ch:Dot→Bool):∀(l k:List Msg),MR l→MR k→MR (bmrg cg ch l k)
 | [],[],_,_=>by rw [bmrg];exact List.Pairwise.nil
 | a::l,[],h1,h2=>by
   obtain ⟨p1,p2⟩:=List.pairwise_cons.1 h1
   rw [bmrg]
   refine MR.cons_alo (fun m hm=>?_) (bmrg_rise cg ch l [] p2 h2)
   obtain ⟨x,hx,e⟩:=bmrg_name cg ch l [] m hm
   rw [e];rcases hx with hx|hx
   ·exact p1 x hx
   ·simp at hx
 | [],b::k,h1,h2=>by
   obtain ⟨p1,p2⟩:=List.pairwise_cons.1 h2
   rw [bmrg]
   refine MR.cons_alo (fun m hm=>?_) (bmrg_rise cg ch [] k h1 p2)
   obtain ⟨x,hx,e⟩:=bmrg_name cg ch [] k m hm
   rw [e];rcases hx with hx|hx
   ·simp at hx
   ·exact p1 x hx
 | a::l,b::k,h1,h2=>by
   obtain ⟨p1,p2⟩:=List.pairwise_cons.1 h1
   obtain ⟨q1,q2⟩:=List.pairwise_cons.1 h2
   rw [bmrg]
   split
   ·rename_i hlt
    rw [dlt_iff] at hlt
    refine MR.cons_alo (fun m hm=>?_) (bmrg_rise cg ch l (b::k) p2 h2)
    obtain ⟨x,hx,e⟩:=bmrg_name cg ch l (b::k) m hm
    rw [e];rcases hx with hx|hx
    ·exact p1 x hx
    ·rcases List.mem_cons.1 hx with rfl|hx
     ·exact hlt
     ·exact hlt.trans (q1 x hx)
   ·rename_i hlt
    have hlt' : ¬DL a.1 b.1:=by rw [←dlt_iff];exact hlt
    split
    ·rename_i hne
     have hba:DL b.1 a.1:=by
      obtain ⟨⟨x1,x2⟩,xr⟩:=a
      obtain ⟨⟨y1,y2⟩,yr⟩:=b
      dsimp only at *
      unfold DL at *
      simp only [ne_eq,Prod.mk.injEq,not_and] at hne
      dsimp only at *
      by_cases e:x1=y1
      ·have:=hne e;omega
      ·omega
     refine MR.cons_alo (fun m hm=>?_) (bmrg_rise cg ch (a::l) k h1 q2)
     obtain ⟨x,hx,e⟩:=bmrg_name cg ch (a::l) k m hm
     rw [e];rcases hx with hx|hx
     ·rcases List.mem_cons.1 hx with rfl|hx
      ·exact hba
      ·exact hba.trans (p1 x hx)
     ·exact q1 x hx
    ·rename_i hne
     have he:a.1=b.1:=by simpa using hne
     refine List.pairwise_cons.2 ⟨fun m hm=>?_,bmrg_rise cg ch l k p2 q2⟩
     obtain ⟨x,hx,e⟩:=bmrg_name cg ch l k m hm
     rw [e,bothM_name he];rcases hx with hx|hx
     ·exact p1 x hx
     ·rw [he];exact q1 x hx
termination_by l k=>l.length+k.length
theorem lget_cons (a:Msg) (l:List Msg) (d:Dot):lget (a::l) d=if a.1=d then some a else lget l d:=by
 unfold lget;rw [List.find?_cons];by_cases h:a.1=d <;> simp [h]
theorem lget_alo (c:Dot→Bool) (a:Msg) (d:Dot):lget (alo c a) d=if a.1=d∧c d=false then some a else none:=by
 unfold alo
 by_cases h:a.1=d
 ·subst h
  by_cases hc:c a.1=true <;> simp [hc,lget]
 ·by_cases hc:c a.1=true <;> simp [hc,lget,h]
theorem lget_above {a:Msg} {l:List Msg} {d:Dot} (h:∀m ∈ l,DL a.1 m.1) (hd:d=a.1∨DL d a.1):lget l d=none:=by
 rw [lget_none]
 intro m hm e
 have:=h m hm
 rw [e] at this
 rcases hd with rfl|hd
 ·exact DL.irrefl _ this
 ·exact DL.irrefl _ (hd.trans this)
theorem bmrg_get (cg ch:Dot→Bool) (d:Dot):∀(l k:List Msg),MR l→MR k→lget (bmrg cg ch l k) d=jof (lget l d) (cg d) (lget k d) (ch d)
 | [],[],_,_=>by rw [bmrg];rfl
 | a::l,[],h1,h2=>by
   obtain ⟨p1,p2⟩:=List.pairwise_cons.1 h1
   rw [bmrg,lget_append,lget_alo,bmrg_get cg ch d l [] p2 h2,lget_cons]
   by_cases h:a.1=d
   ·have:=lget_above p1 (.inl h.symm)
    rw [this]
    cases hc:ch d <;> simp [h,jof,lget]
   ·simp [h]
 | [],b::k,h1,h2=>by
   obtain ⟨p1,p2⟩:=List.pairwise_cons.1 h2
   rw [bmrg,lget_append,lget_alo,bmrg_get cg ch d [] k h1 p2,lget_cons]
   by_cases h:b.1=d
   ·have:=lget_above p1 (.inl h.symm)
    rw [this]
    cases hc:cg d <;> simp [h,jof,lget]
   ·simp [h]
 | a::l,b::k,h1,h2=>by
   obtain ⟨p1,p2⟩:=List.pairwise_cons.1 h1
   obtain ⟨q1,q2⟩:=List.pairwise_cons.1 h2
   rw [bmrg]
   split
   ·rename_i hlt
    rw [dlt_iff] at hlt
    rw [lget_append,lget_alo,bmrg_get cg ch d l (b::k) p2 h2,lget_cons a]
    by_cases h:a.1=d
    ·have e1:=lget_above p1 (.inl h.symm)
     have e2:lget (b::k) d=none:=lget_above (a:=a) (fun m hm=>by
      rcases List.mem_cons.1 hm with rfl|hm
      ·exact hlt
      ·exact hlt.trans (q1 m hm)) (.inl h.symm)
     rw [e1,e2]
     cases hc:ch d <;> simp [h,jof]
    ·simp [h]
   ·rename_i hlt
    split
    ·rename_i hne
     have hlt' : ¬DL a.1 b.1:=by rw [←dlt_iff];exact hlt
     have hba:DL b.1 a.1:=by
      obtain ⟨⟨x1,x2⟩,xr⟩:=a
      obtain ⟨⟨y1,y2⟩,yr⟩:=b
      dsimp only at *
      unfold DL at *
      simp only [ne_eq,Prod.mk.injEq,not_and] at hne
      dsimp only at *
      by_cases e:x1=y1
      ·have:=hne e;omega
      ·omega
     rw [lget_append,lget_alo,bmrg_get cg ch d (a::l) k h1 q2,lget_cons b]
     by_cases h:b.1=d
     ·have e1:=lget_above q1 (.inl h.symm)
      have e2:lget (a::l) d=none:=lget_above (a:=b) (fun m hm=>by
       rcases List.mem_cons.1 hm with rfl|hm
       ·exact hba
       ·exact hba.trans (p1 m hm)) (.inl h.symm)
      rw [e1,e2]
      cases hc:cg d <;> simp [h,jof]
     ·simp [h]
    ·rename_i hne
     have he:a.1=b.1:=by simpa using hne
     rw [lget_cons,bothM_name he,bmrg_get cg ch d l k p2 q2,lget_cons,lget_cons,←he]
     by_cases h:a.1=d <;> simp [h,jof]
termination_by l k=>l.length+k.length
theorem bmrg_join {U V:List Dot} {g h:Bag} (hg:BOk U g) (hh:BOk V h):bmrg (chas g.2.1 g.2.2) (chas h.2.1 h.2.2) g.1 h.1=(bjoin g h).1 :=
 mr_ext (bmrg_rise _ _ _ _ hg.r hh.r) (msort_rise (hg.md hh)) (fun d=>by rw [bmrg_get _ _ _ _ _ hg.r hh.r,bjoin_get hg hh])
end
section
open Go.RowKit Go.Maps Go.Shelf Go.Sort
def Uall:List Dot:=(List.range 1099511627777).flatMap fun (a:Nat)=>(List.range 1099511627777).map fun (b:Nat)=>((a:Int),(b:Int))
theorem mem_Uall {d:Dot} (h:dok d):d ∈ Uall:=by
 unfold dok at h
 unfold Uall
 rw [List.mem_flatMap]
 obtain ⟨h1,h2,h3,h4⟩:=h
 refine ⟨d.1.toNat,List.mem_range.2 oe,List.mem_map.2 ⟨d.2.toNat,List.mem_range.2 oe,?_⟩⟩
 refine Prod.ext ?_ ?_ <;> dsimp only <;> omega
theorem BV.all {g:Bag} (h:BV g):BOk Uall g:=⟨h.ok,h.r,h.seen,fun _ hd=>mem_Uall (chas_iff.1 hd).1,h.may⟩
theorem BV.join {g h:Bag} (hg:BV g) (hh:BV h):BV (bjoin g h):=(hg.all.join hh.all).bv
theorem BV.put {g:Bag} (h:BV g) {m:Msg} (hm:mmay m=true) (hn:chas g.2.1 g.2.2 m.1=false):BV (bput g m) :=
 (h.all.put hm (by refine mem_Uall (dchk_iff.1 ?_);unfold mmay at hm;simp only [Bool.and_eq_true] at hm;exact hm.1.1.1.1.1) hn).bv
theorem BV.remove {g:Bag} (h:BV g) {d:Dot} (hd:dok d):BV (bremove g d):=(h.all.remove (mem_Uall hd)).bv
theorem Jn.len {X Y:List Dot × List Dot} (hx:COk X.1 X.2) (hy:COk Y.1 Y.2):(Jn X Y).1.length≤X.1.length+Y.1.length∧(Jn X Y).2.length≤X.2.length+Y.2.length:=by
 refine ⟨?_,(cjoin_len hx.wk hy.wk).2⟩
 have hj:=Jn.ok hx hy
 have hnd:((Jn X Y).1.map (·.1)).Nodup:=by
  have:((Jn X Y).1.map (·.1)).Pairwise (fun a b=>a≠b):=by
   rw [List.pairwise_map]
   exact List.Pairwise.imp (R:=fun a b:Dot=>a.1<b.1) (fun {a b} h (e:a.1=b.1)=>by omega) hj.br
  exact this
 have key:∀(Z:List Dot × List Dot),COk Z.1 Z.2→∀x,chas Z.1 Z.2 (x,1)=true→x ∈ Z.1.map (·.1):=fun Z hz x h=>by
  obtain ⟨hd,h1|h1⟩:=chas_iff.1 h
  ·have h0:cbase Z.1 x≠0:=by dsimp only at h1;omega
   exact List.mem_map.2 ⟨_,cbase_pos h0,rfl⟩
  ·have:=hz.far _ h1
   have h2:0≤cbase Z.1 x:=by
    by_cases h0:cbase Z.1 x=0
    ·omega
    ·have:=hz.bok _ (cbase_pos h0);unfold dok at this;dsimp only at this;omega
   dsimp only at this;omega
 have:=nodup_sub_len hnd (k:=X.1.map (·.1)++Y.1.map (·.1)) (fun x h=>by
  obtain ⟨d,hd,rfl⟩:=List.mem_map.1 h
  have hdo:=hj.bok d hd
  unfold dok at hdo
  have h1:chas (Jn X Y).1 (Jn X Y).2 (d.1,1)=true:=chas_iff.2 ⟨by unfold dok;dsimp only;omega,.inl (by have:=cbase_mem hj.br hd;dsimp only;omega)⟩
  rw [Jn.has hx hy,Bool.or_eq_true] at h1
  rw [List.mem_append]
  exact h1.imp (key X hx d.1) (key Y hy d.1))
 simpa using this
theorem bmrg_len_le (g h:Bag) (hg:BV g) (hh:BV h):(bjoin g h).1.length≤g.1.length+h.1.length:=by
 have hj:=hg.join hh
 have:=nodup_sub_len (rise_nodup hj.r.rise) (k:=g.1.map (·.1)++h.1.map (·.1)) (fun d hd=>by
  obtain ⟨m,hm,rfl⟩:=List.mem_map.1 hd
  have e:=hj.r.get.1 hm
  rw [bjoin_get hg.all hh.all] at e
  rw [List.mem_append]
  cases e1:lget g.1 m.1 with
  | some x=>left;obtain ⟨h1,h2⟩:=lget_some e1;exact List.mem_map.2 ⟨x,h1,h2⟩
  | none =>
    cases e2:lget h.1 m.1 with
    | some x=>right;obtain ⟨h1,h2⟩:=lget_some e2;exact List.mem_map.2 ⟨x,h1,h2⟩
    | none=>rw [e1,e2] at e;cases e)
 simpa using this
structure BN (n:Nat) (g:Bag):Prop where
 v:BV g
 l:g.1.length≤n
 c:g.2.1.length+g.2.2.length≤n
theorem BN.mono {m n:Nat} {g:Bag} (h:BN m g) (hm:m≤n):BN n g:=⟨h.v,Nat.le_trans h.l hm,Nat.le_trans h.c hm⟩
theorem BN.nil:BN 0 ([],[],[]):=⟨BV.nil,Nat.le_refl _,Nat.le_refl _⟩
theorem BN.join {m n:Nat} {g h:Bag} (hg:BN m g) (hh:BN n h):BN (m+n) (bjoin g h):=by
 refine ⟨hg.v.join hh.v,Nat.le_trans (bmrg_len_le g h hg.v hh.v) (Nat.add_le_add hg.l hh.l),?_⟩
 have h1:=Jn.len hg.v.ok hh.v.ok
 have h2:=hg.c
 have h3:=hh.c
 show (Jn g.2 h.2).1.length+(Jn g.2 h.2).2.length≤_
 omega
end
end Go.Proofs.YtdlpnhfgjficgaaGreat
