import Derived.WalkKit
import Derived.Maps.OwnSet
import Derived.Maps.OwnOps
namespace Go
def Value.rb:Value→Option Nat
 | .slice (some a) _ cap=>if cap=0 then none else some a.block
 | _=>none
end Go
namespace Go.Proofs.YtdlpnhfgjficgaaGreat
open Go.RowKit Go.Maps Go.MapKept
open Go.ChangeMaps (setBlock)
structure Kept (S:Nat→Prop) (w w' : World):Prop where
 os:w'.os=w.os
 tape:w'.tape=w.tape
 output:w'.output=w.output
 size:w.heap.size≤w'.heap.size
 block:∀k,k<w.heap.size→¬S k→w'.heap[k]?=w.heap[k]?
namespace Kept
variable {S T:Nat→Prop} {a b c:World}
theorem refl (S:Nat→Prop) (w:World):Kept S w w:=⟨rfl,rfl,rfl,Nat.le_refl _,fun _ _ _=>rfl⟩
theorem trans (h:Kept S a b) (k:Kept S b c):Kept S a c :=
 ⟨k.os.trans h.os,k.tape.trans h.tape,k.output.trans h.output,Nat.le_trans h.size k.size,fun i hi hS=>(k.block i (Nat.lt_of_lt_of_le hi h.size) hS).trans (h.block i hi hS)⟩
theorem mono (h:Kept S a b) (hs:∀k,k<a.heap.size→S k→T k):Kept T a b:=⟨h.os,h.tape,h.output,h.size,fun k hk hT=>h.block k hk (fun hS=>hT (hs k hk hS))⟩
theorem drew (h:Kept S a b):Kept S a b.drew:=⟨h.os,h.tape,h.output,h.size,h.block⟩
theorem alloc (h:Kept S a b) (o:Obj):Kept S a (b.alloc o) :=
 h.trans ⟨rfl,rfl,rfl,by simp,fun k hk _=>Below.heap_alloc _ _ _ hk⟩
theorem setCell (h:Kept S a b) {p:Addr} (hp:p.block<a.heap.size→S p.block) (u:Value):Kept S a (b.setCell p u) :=
 ⟨h.os,h.tape,h.output,by have:=h.size;simpa [World.setCell] using this,fun k hk hS=>(Below.heap_setCell _ _ _ _ (fun e=>hS (by subst e;exact hp hk))).trans (h.block k hk hS)⟩
theorem grown (h:Kept S a b) {row:Option Nat} (hg:b.grownBy c row) (hr:∀k,row=some k→k<a.heap.size→S k):Kept S a c :=
 ⟨hg.os.trans h.os,hg.tape.trans h.tape,hg.output.trans h.output,Nat.le_trans h.size hg.size,fun k hk hS=>(hg.block k (Nat.lt_of_lt_of_le hk h.size) (fun e=>hS (hr k e.symm hk))).trans (h.block k hk hS)⟩
theorem then_ (h:Kept S a b) (k:Kept T b c) (hs:∀i,i<a.heap.size→T i→S i):Kept S a c :=
 ⟨k.os.trans h.os,k.tape.trans h.tape,k.output.trans h.output,Nat.le_trans h.size k.size,fun i hi hS=>(k.block i (Nat.lt_of_lt_of_le hi h.size) (fun hT=>hS (hs i hi hT))).trans (h.block i hi hS)⟩
theorem ofBelow' (h:Below a.heap.size a b):Kept S a b:=⟨h.os,h.tape,h.output,h.size,fun k hk _=>h.block k hk⟩
theorem below (h:Kept S a b) {B:Nat} (hB:B≤a.heap.size) (hs:∀k,k<B→¬S k):Below B a b:=⟨h.os,h.tape,h.output,h.size,fun k hk=>h.block k (by omega) (hs k hk)⟩
theorem cell (h:Kept S a b) {p:Addr} (hp:p.block<a.heap.size) (hS:¬S p.block):b.cell? p=a.cell? p:=World.cell?_of_block (w:=a) (h.block _ hp hS)
theorem frozen (h:Kept S a b) {p:Addr} (hp:p.block<a.heap.size) (hS:¬S p.block):b.frozen? p=a.frozen? p:=World.frozen?_of_block (w:=a) (h.block _ hp hS)
end Kept
abbrev Pure (w w' : World):Prop:=Below w.heap.size w w'
theorem hid {p:Prop} (h:p):Hid p:=h
theorem oe {p:Prop} (h:p:=by omega):p:=h
theorem qa {p:Prop} (h:p:=by assumption):p:=h
theorem qd {p:Prop} (h:p:=by decide):p:=h
theorem qb {p:Prop} (h:p:=by simp):p:=h
theorem qk {p:Prop} (h:p:=by kernel_rfl):p:=h
theorem qc {p:Prop} (h:p:=by (simp;omega)):p:=h
theorem qz {p:Prop} (h:p:=by first|assumption|with_reducible exact hst.out|with_reducible exact hS.out _ (Pure.then_ (hS2.out _ (by assumption)) (by assumption))):p:=h
theorem qh (p:Prop) (h:p):Hid p:=h
theorem qe {α:Sort _} (x:α):∃y,y=x:=⟨_,rfl⟩
theorem qp {w:World} {o:Obj}:Below w.heap.size w (w.alloc o):=(Below.refl _ _).alloc (Nat.le_refl _) _
theorem qv {n:Nat} {w:World}:Below n w w.drew:=(Below.refl _ _).drew
theorem Pure.kept {S:Nat→Prop} {a b:World} (h:Pure a b):Kept S a b:=Kept.ofBelow' h
theorem Pure.then_ {a b c:World} (h:Pure a b) (k:Pure b c):Pure a c:=Below.trans h (k.mono h.size)
theorem cob {w:World} {b:Nat} {cs:Array Value} {t:TypeId} {f:Nat × Nat} (h:w.heap[b]?=some (.cells cs t f)) (i:Nat):w.cell? ⟨b,i,none⟩=cs[i]?:=by
 simp [World.cell?,h]
theorem fob {w:World} {b:Nat} {cs:Array Value} {t:TypeId} (h:w.heap[b]?=some (.cells cs t (0,0))) (i:Nat):w.frozen? ⟨b,i,none⟩=false:=by
 simp [World.frozen?,h]
theorem lob {w:World} {b:Nat} {o:Obj} (h:w.heap[b]?=some o):b<w.heap.size:=(Array.getElem?_eq_some_iff.1 h).1
theorem bsc {w:World} {b:Nat} {cs:Array Value} {t:TypeId} {f:Nat × Nat} (h:w.heap[b]?=some (.cells cs t f)) (i:Nat) (v:Value):(w.setCell ⟨b,i,none⟩ v).heap[b]?=some (.cells (cs.setIfInBounds i v) t f):=by
 simp [World.setCell,Array.getElem?_modify,h]
theorem bso {w:World} {b:Nat} {o:Obj} (h:w.heap[b]?=some o) (p:Addr) (hp:p.block≠b) (v:Value):(w.setCell p v).heap[b]?=some o:=by
 rw [Below.heap_setCell _ _ _ _ (fun e=>hp e.symm)];exact h
theorem ban (w:World) (o:Obj):(w.alloc o).heap[w.heap.size]?=some o:=heap_alloc_new w o
theorem bao {w:World} {b:Nat} {o:Obj} (h:w.heap[b]?=some o) (o' : Obj):(w.alloc o').heap[b]?=some o:=by
 rw [Below.heap_alloc _ _ _ (lob h)];exact h
theorem rb_own {v:Value} {k:Nat} (h:v.rb=some k):v.ownBlock=some k:=by
 unfold Value.rb at h
 split at h
 ·split at h
  ·cases h
  ·exact h
 ·cases h
def Row (w:World) (v:Value) (n size:Nat) (xs:List Value):Prop :=
 xs.length=n*size∧∃a cap,v=.slice a n cap∧n≤cap∧cap≤maxLen ∧
  (cap=0∨∃b off,a=some ⟨b,off,none⟩∧b<w.heap.size∧∀i,i<n*size→w.cell? ⟨b,off+i,none⟩=xs[i]?)
theorem Row.nil (w:World) (size:Nat):Row w (.slice none 0 0) 0 size []:=⟨by simp,none,0,rfl,Nat.le_refl _,by simp,.inl rfl⟩
theorem Row.shape {w:World} {v:Value} {n size:Nat} {xs:List Value} (h:Row w v n size xs):∃a cap,v=.slice a n cap:=by obtain ⟨_,a,cap,e,_⟩:=h;exact ⟨a,cap,e⟩
theorem Row.lt {w:World} {v:Value} {n size:Nat} {xs:List Value} (h:Row w v n size xs):∀k,v.rb=some k→k<w.heap.size:=by
 obtain ⟨_,a,cap,rfl,_,_,rfl|⟨b,off,rfl,hb,_⟩⟩:=h <;> intro k hk
 ·cases a <;> simp [Value.rb] at hk
 ·simp [Value.rb] at hk
  rw [←hk.2];exact hb
theorem Row.kept {S:Nat→Prop} {w w' : World} {v:Value} {n size:Nat} {xs:List Value} (h:Row w v n size xs) (hk:Kept S w w') (hS:∀k,v.rb=some k→¬S k):Row w' v n size xs:=by
 obtain ⟨hl,a,cap,rfl,h1,h2,h3⟩:=h
 refine ⟨hl,a,cap,rfl,h1,h2,?_⟩
 rcases h3 with h3|⟨b,off,rfl,hb,hc⟩
 ·exact .inl h3
 ·by_cases h0:cap=0
  ·exact .inl h0
  ·exact .inr ⟨b,off,rfl,Nat.lt_of_lt_of_le hb hk.size,fun i hi=>(hk.cell (p:=⟨b,off+i,none⟩) hb (hS b (by simp [Value.rb,h0]))).trans (hc i hi)⟩
theorem Row.pure {w w' : World} {v:Value} {n size:Nat} {xs:List Value} (h:Row w v n size xs) (hk:Pure w w'):Row w' v n size xs :=
 h.kept (S:=fun _=>False) hk.kept (fun _ _ h=>h)
theorem Row.same {w w' : World} {v:Value} {n size:Nat} {xs:List Value} (h:Row w v n size xs) (hk:∀k,v.rb=some k→w'.heap[k]?=w.heap[k]?):Row w' v n size xs:=by
 obtain ⟨hl,a,cap,rfl,h1,h2,h3⟩:=h
 refine ⟨hl,a,cap,rfl,h1,h2,?_⟩
 rcases h3 with h3|⟨b,off,rfl,hb,hc⟩
 ·exact .inl h3
 ·by_cases h0:cap=0
  ·exact .inl h0
  ·have e:=hk b (by simp [Value.rb,h0])
   refine .inr ⟨b,off,rfl,?_,fun i hi=>(World.cell?_of_block (w:=w) (a:=⟨b,off+i,none⟩) e).trans (hc i hi)⟩
   have:(w'.heap[b]?).isSome=true:=by rw [e];simp [hb]
   simpa using this
theorem Row.len_le {w:World} {v:Value} {n size:Nat} {xs:List Value} (h:Row w v n size xs):n≤maxLen:=by
 obtain ⟨_,a,cap,_,h1,h2,_⟩:=h;exact Nat.le_trans h1 h2
theorem Row.of_own {w:World} {base e size:Nat} {v:Value} {n:Nat} {xs:List Value} (h:w.ownsRow base e size v n xs):Row w v n size xs:=by
 obtain ⟨hl,⟨rfl,rfl⟩|⟨g,cap,cur,rfl,hb,hg,h1,h2,h3,h4⟩⟩:=h
 ·exact ⟨hl,none,0,rfl,Nat.le_refl _,Nat.zero_le _,.inl rfl⟩
 ·refine ⟨hl,some ⟨g,0,none⟩,cap,rfl,h1,h2,.inr ⟨g,0,rfl,lob hg,fun i hi=>?_⟩⟩
  rw [Nat.zero_add,cob hg,←h4,List.getElem?_take,if_pos hi]
  simp
theorem own_mono {w:World} {base base' e size:Nat} {v:Value} {n:Nat} {xs:List Value} (h:w.ownsRow base e size v n xs) (hb:base'≤base):w.ownsRow base' e size v n xs:=by
 obtain ⟨hl,h|⟨g,cap,cur,rfl,hg,r⟩⟩:=h
 ·exact ⟨hl,.inl h⟩
 ·exact ⟨hl,.inr ⟨g,cap,cur,rfl,Nat.le_trans hb hg,r⟩⟩
theorem own_ne {w:World} {base e size:Nat} {v:Value} {n:Nat} {xs:List Value} (h:w.ownsRow base e size v n xs) {b:Nat} (hb:b<base):v.ownBlock≠some b:=fun e=>by have:=(h.lt b e).1;omega
abbrev I (x:Int):Value:=.int .i64 x
def Ints (w:World) (v:Value) (l:List Int):Prop:=Row w v l.length 1 (l.map (Value.int .i64))
theorem Ints.cell {w:World} {a:Option Addr} {n cap:Nat} {l:List Int} (h:Ints w (.slice a n cap) l):n=l.length∧n≤cap∧cap≤maxLen∧((l=[]∧cap=0)∨∃b off,a=some ⟨b,off,none⟩∧b<w.heap.size∧∀i,i<l.length→w.cell? ⟨b,off+i,none⟩=some (.int .i64 (l.getD i 0))):=by
 obtain ⟨_,a',cap',e,h1,h2,h3⟩:=h
 cases e
 refine ⟨rfl,h1,h2,?_⟩
 rcases h3 with rfl|⟨b,off,rfl,hb,hc⟩
 ·exact .inl ⟨List.eq_nil_of_length_eq_zero (by omega),rfl⟩
 ·refine .inr ⟨b,off,rfl,hb,fun i hi=>?_⟩
  rw [hc i (by omega)]
  simp [List.getD,hi]
theorem Ints.shape {w:World} {v:Value} {l:List Int} (h:Ints w v l):∃a cap,v=.slice a l.length cap:=by
 obtain ⟨_,a,cap,e,_⟩:=h;exact ⟨a,cap,e⟩
def IMap {α:Type} (enc:α→Value) (w:World) (b:Nat) (m:List (Int × α)):Prop :=
 ∃es clock,w.heap[b]?=some (.map es clock)∧Stamped es clock∧(∀p ∈ m,(Lit.int .i64 p.1).wf=true)∧es.toList.map (fun x=>(x.key,x.val))=m.map (fun p=>(Value.int .i64 p.1,enc p.2))
def mlook {α:Type} (m:List (Int × α)) (k:Int):Option α:=(m.find? (fun p=>p.1 == k)).map (·.2)
def mput {α:Type} (m:List (Int × α)) (k:Int) (v:α):List (Int × α) :=
 match m with
 | []=>[(k,v)]
 | p::r=>if p.1 == k then (k,v)::r else p::mput r k v
section
variable {α:Type} {enc:α→Value} {w:World} {b:Nat} {m:List (Int × α)} {P:Program} {t kt e:TypeId}
theorem IMap.made (enc:α→Value) (w:World):IMap enc (w.alloc (.map #[] 0)) w.heap.size [] :=
 ⟨#[],0,ban _ _,stamped_empty 0,by simp,rfl⟩
theorem IMap.lt (h:IMap enc w b m):b<w.heap.size:=by obtain ⟨es,clock,hb,_⟩:=h;exact lob hb
theorem IMap.kept {S:Nat→Prop} {w' : World} (h:IMap enc w b m) (hk:Kept S w w') (hS:¬S b):IMap enc w' b m:=by
 obtain ⟨es,clock,hb,r⟩:=h
 exact ⟨es,clock,(hk.block b (lob hb) hS).trans hb,r⟩
theorem IMap.same {w' : World} (h:IMap enc w b m) (hk:w'.heap[b]?=w.heap[b]?):IMap enc w' b m:=by
 obtain ⟨es,clock,hb,r⟩:=h
 exact ⟨es,clock,hk.trans hb,r⟩
theorem IMap.pure {w' : World} (h:IMap enc w b m) (hk:Pure w w'):IMap enc w' b m:=h.kept (S:=fun _=>False) hk.kept (fun h=>h)
theorem IMap.keysOf {es:Array MapEntry} (hk:P.underlying kt=some (.int .i64)) (hw:∀p ∈ m,(Lit.int .i64 p.1).wf=true) (he:es.toList.map (fun x=>(x.key,x.val))=m.map (fun p=>(Value.int .i64 p.1,enc p.2))):∀x ∈ es.toList,∃l,keyOf P kt x.key=some l:=by
 intro x hx
 have:(x.key,x.val) ∈ es.toList.map (fun x=>(x.key,x.val)):=List.mem_map.2 ⟨x,hx,rfl⟩
 rw [he] at this
 obtain ⟨p,hp,e⟩:=List.mem_map.1 this
 cases e' : x.key <;> simp [e'] at e
 obtain ⟨⟨rfl,rfl⟩,_⟩:=e
 exact ⟨_,keyOf_int_mk hk (hw p hp)⟩
theorem find_assoc:∀(es:List MapEntry) (m:List (Int × α)),es.map (fun x=>(x.key,x.val))=m.map (fun p=>(Value.int .i64 p.1,enc p.2))→∀(k:Int),
 ((∀x ∈ es,x.key≠.int .i64 k)→m.find? (fun p=>p.1 == k)=none) ∧
 (∀(j:Nat) (x:MapEntry),es[j]?=some x→x.key=.int .i64 k→(es.map (·.key)).Nodup→∃v,m.find? (fun p=>p.1 == k)=some (k,v)∧x.val=enc v)
 | [],[],_,k=>⟨fun _=>rfl,fun j x h=>by simp at h⟩
 | [],_::_,h,_=>by simp at h
 | _::_,[],h,_=>by simp at h
 | x0::es,(k0,v0)::m,h,k=>by
   simp only [List.map_cons,List.cons.injEq,Prod.mk.injEq] at h
   obtain ⟨⟨hk0,hv0⟩,hr⟩:=h
   obtain ⟨i1,i2⟩:=find_assoc es m hr k
   constructor
   ·intro hne
    have h0:k0≠k:=fun e=>hne x0 (by simp) (by rw [hk0,e])
    rw [List.find?_cons_of_neg (by simpa using h0)]
    exact i1 fun x hx=>hne x (by simp [hx])
   ·intro j x hj hx hnd
    cases j with
    | zero =>
      simp at hj;subst hj
      rw [hk0] at hx
      have e:k0=k:=by simpa using hx
      subst e
      exact ⟨v0,by simp,hv0⟩
    | succ j =>
      simp at hj
      have hnd':=List.nodup_cons.1 (List.map_cons (f:=fun x:MapEntry=>x.key) ▸ hnd)
      have h0:k0≠k:=fun e=>hnd'.1 (by rw [hk0,e,←hx];exact List.mem_map.2 ⟨x,List.mem_of_getElem? hj,rfl⟩)
      obtain ⟨v,h1,h2⟩:=i2 j x hj hx hnd'.2
      exact ⟨v,by rw [List.find?_cons_of_neg (by simpa using h0)];exact h1,h2⟩
theorem IMap.look (h:IMap enc w b m) (hk:P.underlying kt=some (.int .i64)) (ht:P.underlying t=some (.map kt e)) {z:Value} (hz:(zeroValue e).run P w=.ok z w) (k:Int) (hw:(Lit.int .i64 k).wf=true) (c:Bool) :
 (Instr.lookup t (.map (some b)) (.int .i64 k) c).run P w=.ok (if c then .tuple #[((mlook m k).map enc).getD z,.bool (mlook m k).isSome] else ((mlook m k).map enc).getD z) w:=by
 obtain ⟨es,clock,hb,hst,hwf,he⟩:=h
 have K:Keyed P kt:=int_keyed hk
 have hkey:=keyOf_int_mk hk hw
 obtain ⟨f1,f2⟩:=find_assoc es.toList m he k
 rcases K.find w hkey es.toList (IMap.keysOf hk hwf he) with ⟨h1,h2⟩|⟨j,e0,h1,h2,h3⟩
 ·have hn:=f1 h2
  simp [Instr.lookup,run_underlying ht,MapKept.run_getObj_map hb,K.check w _ hkey,h1,hz,Result.andThen,mlook,hn]
 ·obtain ⟨v,hv,hx⟩:=f2 j e0 h2 h3 hst.2.2
  simp [Instr.lookup,run_underlying ht,MapKept.run_getObj_map hb,K.check w _ hkey,h1,Result.andThen,mlook,hv,hx]
theorem mput_assoc:∀(es:List MapEntry) (m:List (Int × α)),es.map (fun x=>(x.key,x.val))=m.map (fun p=>(Value.int .i64 p.1,enc p.2))→∀(k:Int) (v:α),
 ((∀x ∈ es,x.key≠.int .i64 k)→mput m k v=m++[(k,v)]) ∧
 (∀(j:Nat) (x:MapEntry),es[j]?=some x→x.key=.int .i64 k→(es.map (·.key)).Nodup→mput m k v=m.set j (k,v)∧m.length=es.length)
 | [],[],_,k,v=>⟨fun _=>rfl,fun j x h=>by simp at h⟩
 | [],_::_,h,_,_=>by simp at h
 | _::_,[],h,_,_=>by simp at h
 | x0::es,(k0,v0)::m,h,k,v=>by
   simp only [List.map_cons,List.cons.injEq,Prod.mk.injEq] at h
   obtain ⟨⟨hk0,hv0⟩,hr⟩:=h
   obtain ⟨i1,i2⟩:=mput_assoc es m hr k v
   have hlen:m.length=es.length:=by have:=congrArg List.length hr;simpa using this.symm
   constructor
   ·intro hne
    have h0:¬(k0 == k)=true:=fun e=>hne x0 (by simp) (by rw [hk0];simpa using e)
    simp only [mput,if_neg h0,List.cons_append]
    rw [i1 fun x hx=>hne x (by simp [hx])]
   ·intro j x hj hx hnd
    cases j with
    | zero =>
      simp at hj;subst hj
      rw [hk0] at hx
      have e:k0=k:=by simpa using hx
      simp [mput,e,hlen]
    | succ j =>
      simp at hj
      have hnd':=List.nodup_cons.1 (List.map_cons (f:=fun x:MapEntry=>x.key) ▸ hnd)
      have h0:¬(k0 == k)=true:=fun e=>hnd'.1 (by rw [hk0,show k0=k by simpa using e,←hx];exact List.mem_map.2 ⟨x,List.mem_of_getElem? hj,rfl⟩)
      simp only [mput,if_neg h0,List.set_cons_succ,(i2 j x hj hx hnd'.2).1,List.length_cons,hlen,and_self]
theorem IMap.put (h:IMap enc w b m) (hk:P.underlying kt=some (.int .i64)) (ht:P.underlying t=some (.map kt e)) (k:Int) (hw:(Lit.int .i64 k).wf=true) (v:α) :
 ∃w',(Instr.mapUpdate t (.map (some b)) (.int .i64 k) (enc v)).run P w=.ok () w'∧IMap enc w' b (mput m k v)∧w.grownBy w' (some b)∧w'.heap.size=w.heap.size:=by
 obtain ⟨es,clock,hb,hst,hwf,he⟩:=h
 have K:Keyed P kt:=int_keyed hk
 have hkey:=keyOf_int_mk hk hw
 have hlen:m.length=es.size:=by have:=congrArg List.length he;simpa using this.symm
 obtain ⟨f1,f2⟩:=mput_assoc es.toList m he k v
 have hblk:∀o:Obj,w.grownBy (setBlock w b o) (some b):=fun o=>⟨rfl,rfl,rfl,by simp [setBlock],fun i _ hi=>ChangeMaps.heap_setBlock_other hb _ (fun e=>hi (by rw [e]))⟩
 rcases K.find w hkey es.toList (IMap.keysOf hk hwf he) with ⟨h1,h2⟩|⟨j,e0,h1,h2,h3⟩
 ·refine ⟨setBlock w b (.map (es.push ⟨.int .i64 k,enc v,clock⟩) (clock+1)),?_,⟨_,_,ChangeMaps.heap_setBlock_same hb _,stamped_push hst h2,?_,?_⟩,hblk _,by simp [setBlock]⟩
  ·simp [Instr.mapUpdate,run_underlying ht,MapKept.run_getObj_map hb,K.check w _ hkey,h1,MapKept.run_setObj_map _ hb,Result.andThen,setBlock]
  ·rw [f1 h2];intro p hp;rcases List.mem_append.1 hp with hp|hp
   ·exact hwf p hp
   ·simp at hp;subst hp;exact hw
  ·rw [f1 h2];simp [he]
 ·have hj:j<es.size:=by have:=(List.getElem?_eq_some_iff.1 h2).1;simpa using this
  have hstay:=K.stays w hkey
  have hgetj:es[j]?=some e0:=by simpa using h2
  obtain ⟨g1,_⟩:=f2 j e0 h2 h3 hst.2.2
  refine ⟨setBlock w b (.map (es.modify j (fun x=>{ x with key:=.int .i64 k,val:=enc v })) clock),?_,⟨_,_,ChangeMaps.heap_setBlock_same hb _,stamped_modify hst j _ (fun _ _=>rfl) (fun x _ hx=>by rw [hgetj] at hx;cases hx;exact h3.symm),?_,?_⟩,hblk _,by simp [setBlock]⟩
  ·simp [Instr.mapUpdate,run_underlying ht,MapKept.run_getObj_map hb,K.check w _ hkey,h1,MapKept.run_setObj_map _ hb,Result.andThen,setBlock,hgetj,h3,hstay]
  ·rw [g1];intro p hp
   rcases List.mem_or_eq_of_mem_set hp with hp|rfl
   ·exact hwf p hp
   ·exact hw
  ·rw [g1]
   apply List.ext_getElem?
   intro i
   have hi:=congrArg (·[i]?) he
   simp only [List.getElem?_map,Array.getElem?_toList] at hi
   simp only [List.getElem?_map,Array.getElem?_toList,Array.getElem?_modify,List.getElem?_set]
   by_cases hij:j=i
   ·subst hij;simp [hj,hlen]
   ·simp [hij,hi]
theorem IMap.len (h:IMap enc w b m) (ht:P.underlying t=some (.map kt e)) (ty:TypeId):(Builtin.len_ #[t] ty #[.map (some b)]).run P w=.ok (.int .i64 m.length) w:=by
 obtain ⟨es,clock,hb,_,_,he⟩:=h
 have hlen:m.length=es.size:=by have:=congrArg List.length he;simpa using this.symm
 simp [Builtin.len_,run_underlying ht,MapKept.run_getObj_map hb,goInt,Result.andThen,hlen]
end
theorem wpList_put {α:Type} (enc:α→Value) {P:Program} (w:World) {ops:Array Oper} {rest:List Oper} {o:Oper} {a:Act} {Q:Exit→Act→World→Prop}
 (hg:o.guard=none) (mo x v:Operand) (t:TypeId) (hop:o.op=Op.mapUpdate t mo x v)
 (kt e:TypeId) (hk:P.underlying kt=some (.int .i64)) (ht:P.underlying t=some (.map kt e)) (b:Nat) (m:List (Int × α))
 (hm:a.eval mo=.map (some b)) (hown:IMap enc w b m) (k:Int) (hw:(Lit.int .i64 k).wf=true) (y:α) (hx:a.eval x=.int .i64 k) (hv:a.eval v=enc y)
 (hK:∀w',IMap enc w' b (mput m k y)→w.grownBy w' (some b)→w'.heap.size=w.heap.size→wpList P ops Q rest (a.put o.dst undef) w') :
 wpList P ops Q (o::rest) a w:=by
 refine wpList_plain hg fun K' hK'=>?_
 obtain ⟨w',hrun,r1,r2,r3⟩:=hown.put hk ht k hw y
 unfold Oper.wp
 simp [execOp,hop,hm,hx,hv,hrun,Result.andThen]
 exact hK' _ _ (hK w' r1 r2 r3)
end Go.Proofs.YtdlpnhfgjficgaaGreat
