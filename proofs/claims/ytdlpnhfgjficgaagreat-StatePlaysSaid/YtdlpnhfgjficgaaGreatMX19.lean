import Derived.Test.YtdlpnhfgjficgaaGreatBase
import Derived.Test.YtdlpnhfgjficgaaGreatProg
import Derived.WalkSpells
import Derived.WalkLawsBesides
import Derived.Laws.AppendOwnNone
import Derived.Deep.QuietTactic
import Derived.BigQuiet
import Derived.Laws.IdiomStrings
import Derived.Laws.Concat
namespace Go.Proofs.YtdlpnhfgjficgaaGreat
section
open Go.RowKit
theorem ret_int {k:IntKind} {a b:Int} (h:a=b):Ending.returned (.int k a)=.returned (.int k b):=by rw [h]
theorem ret_bool {a b:Bool} (h:a=b):Ending.returned (.bool a)=.returned (.bool b):=by rw [h]
def ddo:List Int→List Int→List Int
 | acc,[]=>acc
 | acc,x::r=>ddo (if x ∈ acc then acc else acc++[x]) r
def dd (l:List Int):List Int:=ddo [] l
theorem ddo_append:∀(l k acc:List Int),ddo acc (l++k)=ddo (ddo acc l) k
 | [],_,_=>rfl
 | x::l,k,acc=>by simp only [List.cons_append,ddo];exact ddo_append l k _
theorem take_succ_get (l:List Int) (k:Nat) (h:k<l.length):l.take (k+1)=l.take k++[l.getD k 0]:=by
 rw [List.take_succ_eq_append_getElem h];simp [List.getD,h]
theorem dd_take (l:List Int) (k:Nat) (h:k<l.length):dd (l.take (k+1))=if l.getD k 0 ∈ dd (l.take k) then dd (l.take k) else dd (l.take k)++[l.getD k 0]:=by
 rw [take_succ_get l k h];unfold dd;rw [ddo_append];rfl
theorem ddo_len:∀(l acc:List Int),(ddo acc l).length≤acc.length+l.length
 | [],acc=>by simp [ddo]
 | x::l,acc=>by
   unfold ddo;split
   ·have:=ddo_len l acc;simp;omega
   ·have:=ddo_len l (acc++[x]);simp at this ⊢;omega
theorem dd_len (l:List Int):(dd l).length≤l.length:=by have:=ddo_len l [];simpa [dd] using this
def tr (l:List Int):List (Int × Bool):=l.map fun x=>(x,true)
theorem mput_tr (l:List Int) (k:Int) (h:k ∉ l):mput (tr l) k true=tr (l++[k]):=by
 induction l with
 | nil=>rfl
 | cons a l ih =>
   have h1:¬a=k:=fun e=>h (by simp [e])
   have h2:k ∉ l:=fun e=>h (by simp [e])
   simp only [tr,List.map_cons,mput,List.cons_append] at *
   rw [if_neg (by simpa using h1),ih h2]
theorem wf_i64 (x:Int) (h : -9223372036854775808≤x∧x≤9223372036854775807):(Lit.int .i64 x).wf=true:=WalkArith.wf_i64 oe
def AllWf (l:List Int):Prop:=∀x ∈ l,(Lit.int .i64 x).wf=true
theorem AllWf.get {l:List Int} (h:AllWf l) {k:Nat} (hk:k<l.length):(Lit.int .i64 (l.getD k 0)).wf=true:=h _ (by simp [List.getD,hk])
theorem ipt {P:Program} {e:TypeId} {z:Value} {s b:Nat} (h:(P.info? e).map (fun i=>(i.zero,i.size,i.bytes))=some (some z,s,b)):∃i,P.info? e=some i∧i.zero=some z∧i.size=s∧i.bytes=b:=by
 cases hi:P.info? e with
 | none=>simp [hi] at h
 | some i=>simp [hi] at h;exact ⟨i,rfl,h.1,h.2.1,h.2.2⟩
end
section
open Go.RowKit Go.Maps
theorem pdN (w:World) (n:Nat):Pure w (w.drewN n):=⟨rfl,rfl,rfl,Nat.le_refl _,fun _ _=>rfl⟩
theorem Row.elem {w:World} {a:Option Addr} {n cap size:Nat} {xs:List Value} (h:Row w (.slice a n cap) n size xs) {i:Nat} (hi:i<n) :
 ∃b off,a=some ⟨b,off,none⟩∧b<w.heap.size∧∀j,j<size→w.cell? ⟨b,off+i*size+j,none⟩=xs[i*size+j]?:=by
 obtain ⟨_,a',cap',e,h1,_,h0|⟨b,off,e',hb,hc⟩⟩:=h
 ·cases e;omega
 ·cases e
  refine ⟨b,off,e',hb,fun j hj=>?_⟩
  rw [Nat.add_assoc]
  refine hc _ ?_
  calc i*size+j<i*size+size:=by omega
   _=(i+1)*size:=by rw [Nat.succ_mul]
   _≤n*size:=Nat.mul_le_mul_right _ hi
theorem wlar {P:Program} {ops:Array Oper} {rest:List Oper} {o:Oper} {a:Act} {Q:Exit→Act→World→Prop} {w:World} (hgd:o.guard=none) (s x:Operand) (t:TypeId)
 (ho:o.op=.call { callee:=.builtin .append,args:=#[s,x],argTypes:=#[t,t] }) (base:Nat) (e:TypeId) (i:TypeInfo) (z:Value) (size bytes:Nat) (ht:P.underlying t=some (.slice e)) (hi:P.info? e=some i) (hz:i.zero=some z)
 (hsize:i.size=size) (hby:i.bytes=bytes) (hzs:z.cells.size=size) (hsz:0<size) (hb100:bytes≤100)
 (v:Value) (n:Nat) (xs:List Value) (hs:a.eval s=v) (hown:w.ownsRow base e size v n xs) (u:Value) (m:Nat) (news:List Value) (hx:a.eval x=u) (hu:Row w u m size news) (h1:∀u ∈ news,u.oneCell'=true) (hlen:n+m≤1000000) (hbase:base≤w.heap.size)
 (h:∀v' w',w'.ownsRow base e size v' (n+m) (xs++news)→w.grownBy w' v.ownBlock→wpList P ops Q rest (a.put o.dst v') w'):wpList P ops Q (o::rest) a w:=by
 obtain ⟨hl,ad,cap,rfl,hnc,hcm,hc⟩:=hu
 cases ad with
 | none =>
   have h0:cap=0:=by
    rcases hc with h|⟨_,_,e,_⟩
    ·exact h
    ·cases e
   have hm0:m=0:=by omega
   subst hm0;subst h0
   have hn0:news=[]:=List.eq_nil_of_length_eq_zero (by simpa using hl)
   subst hn0
   exact wpList_append_own_none hgd s x t ho base e i size ht hi v n xs hs hown hx (h v w (by simpa using hown) (World.grownBy.refl _ _))
 | some ad =>
   refine wpList_append_own _ hgd s x t ho base e i z size bytes ht hi hz hsize hby hzs hsz v n xs hs hown ad m cap news hx hl (fun j u hj=>?_) h1 (by unfold maxLen;omega) ?_ hbase (fun v' w' q1 q2 _=>h v' w' q1 q2)
   ·have hjl:j<m*size:=by rw [←hl];exact (List.getElem?_eq_some_iff.1 hj).1
    rcases hc with rfl|⟨b,off,e',_,hcell⟩
    ·have:m=0:=by omega
     subst this;omega
    ·cases e'
     rw [Addr.add_lit,hcell j hjl];exact hj
   ·calc (n+m)*bytes≤1000000*100:=Nat.mul_le_mul hlen hb100
     _≤140737488355328:=by decide
theorem row_pre {w:World} {b off n cap size:Nat} {xs:List Value} (h:Row w (.slice (some ⟨b,off,none⟩) n cap) n size xs) {k:Nat} (hk:k≤n):Row w (.slice (some ⟨b,off,none⟩) k cap) k size (xs.take (k*size)):=by
 obtain ⟨hl,a,cap',e,h1,h2,hc⟩:=h
 cases e
 have hks:k*size≤n*size:=Nat.mul_le_mul_right _ hk
 refine ⟨by simp;omega,_,_,rfl,by omega,h2,?_⟩
 rcases hc with h0|⟨b',off',e',hb,hcell⟩
 ·exact .inl h0
 ·cases e'
  refine .inr ⟨b,off,rfl,hb,fun i hi=>?_⟩
  rw [hcell i oe,List.getElem?_take,if_pos hi]
theorem row_suf {w:World} {b off n cap size:Nat} {xs:List Value} (h:Row w (.slice (some ⟨b,off,none⟩) n cap) n size xs) {k:Nat} (hk:k≤n):Row w (.slice (some ⟨b,off+k*size,none⟩) (n-k) (cap-k)) (n-k) size (xs.drop (k*size)):=by
 obtain ⟨hl,a,cap',e,h1,h2,hc⟩:=h
 cases e
 have hks:k*size≤n*size:=Nat.mul_le_mul_right _ hk
 refine ⟨by rw [List.length_drop,hl,Nat.sub_mul],_,_,rfl,by omega,by omega,?_⟩
 rcases hc with h0|⟨b',off',e',hb,hcell⟩
 ·left;omega
 ·cases e'
  refine .inr ⟨b,off+k*size,rfl,hb,fun i hi=>?_⟩
  rw [Nat.sub_mul] at hi
  rw [Nat.add_assoc,hcell (k*size+i) oe,List.getElem?_drop]
theorem slice_pre_row {P:Program} {t e:TypeId} {size:Nat} (ht:P.underlying t=some (.slice e)) {w:World} {a:Option Addr} {n cap:Nat} {xs:List Value} (h:Row w (.slice a n cap) n size xs) {k:Nat} (hk:k≤n) (hp:a=none∨∃b o,a=some ⟨b,o,none⟩) (hsz:∀W,(sizeOf e).run P W=.ok size W) :
 ∃v1,(∀W,(Instr.slice t (.slice a n cap) none (some (.int .i64 k)) none).run P W=.ok v1 W)∧∀W,Row W (.slice a n cap) n size xs→Row W v1 k size (xs.take (k*size)):=by
 obtain ⟨hl,a',cap',e',h1,h2,hc⟩:=h
 cases e'
 have hte:P.elem t=e:=by simp [Program.elem,ht]
 have ht' : P.underlying t=some (.slice (P.elem t)):=by rw [hte];exact ht
 refine ⟨.slice a k cap,fun W=>?_,fun W hW=>?_⟩
 ·rw [run_slice_h (P:=P) (w:=W) t a n cap ht' .i64 (k:Int) oe oe,hte,hsz]
  rcases hp with rfl|⟨b,o,rfl⟩
  ·simp [sliced,go_sem]
  ·by_cases hz:cap=0
   ·simp [sliced,go_sem,hz]
   ·simp [sliced,go_sem,Addr.add]
 ·rcases hp with rfl|⟨b,o,rfl⟩
  ·rcases hc with rfl|⟨_,_,e,_⟩
   ·obtain rfl:n=0:=by omega
    obtain rfl:k=0:=by omega
    exact ⟨by simp,none,0,rfl,by omega,by simp,.inl rfl⟩
   ·cases e
  ·exact row_pre hW hk
theorem slice_suf_row {P:Program} {t e:TypeId} {size:Nat} (ht:P.underlying t=some (.slice e)) {w:World} {a:Option Addr} {n cap:Nat} {xs:List Value} (h:Row w (.slice a n cap) n size xs) {k:Nat} (hk:k≤n) (hp:a=none∨∃b o,a=some ⟨b,o,none⟩) (hsz:∀W,(sizeOf e).run P W=.ok size W) :
 ∃v1,(∀W,(Instr.slice t (.slice a n cap) (some (.int .i64 k)) none none).run P W=.ok v1 W)∧∀W,Row W (.slice a n cap) n size xs→Row W v1 (n-k) size (xs.drop (k*size)):=by
 have hr:=h
 obtain ⟨hl,a',cap',e',h1,h2,hc⟩:=h
 cases e'
 have hte:P.elem t=e:=by simp [Program.elem,ht]
 have ht' : P.underlying t=some (.slice (P.elem t)):=by rw [hte];exact ht
 rcases hp with rfl|⟨b,o,rfl⟩
 ·rcases hc with rfl|⟨_,_,e,_⟩
  ·obtain rfl:n=0:=by omega
   obtain rfl:k=0:=by omega
   obtain rfl:xs=[]:=List.eq_nil_of_length_eq_zero (by simpa using hl)
   refine ⟨.slice none 0 0,fun W=>?_,fun W _=>⟨by simp,none,0,rfl,by omega,by simp,.inl rfl⟩⟩
   refine Eq.trans (run_slice_l (P:=P) (w:=W) t none 0 0 ht' .i64 (0:Int) oe oe) ?_
   rw [hte,hsz]
   simp [sliced,go_sem]
  ·cases e
 ·by_cases hz:cap=k
  ·obtain rfl:cap=n:=by omega
   subst hz
   refine ⟨.slice (some ⟨b,o,none⟩) 0 0,fun W=>?_,fun W _=>⟨by simp;omega,some ⟨b,o,none⟩,0,by simp,by omega,by simp,.inl rfl⟩⟩
   rw [run_slice_l (P:=P) (w:=W) t (some ⟨b,o,none⟩) cap cap ht' .i64 (cap:Int) oe oe,hte,hsz]
   simp [sliced,go_sem]
  ·refine ⟨.slice (some ⟨b,o+k*size,none⟩) (n-k) (cap-k),fun W=>?_,fun W hW=>row_suf hW hk⟩
   rw [run_slice_l (P:=P) (w:=W) t (some ⟨b,o,none⟩) n cap ht' .i64 (k:Int) oe oe,hte,hsz]
   simp [sliced,go_sem,hz,Addr.add]
end
section
set_option maxHeartbeats 1000000
set_option maxRecDepth 8000
open Go.RowKit Go.Maps
def bs (l:List UInt8):ByteArray:=⟨l.toArray⟩
theorem bs_size (l:List UInt8):(bs l).size=l.length:=by simp [bs,ByteArray.size]
theorem bs_append (l k:List UInt8):bs l++bs k=bs (l++k):=ByteArray.mk_append_mk _ _
def numAcc (n:Nat) (acc:List UInt8):List UInt8:=if h:n<128 then acc else numAcc (n / 128) (UInt8.ofNat (128+n / 128 % 128)::acc)
termination_by n
decreasing_by omega
def num (n:Nat):List UInt8:=numAcc n [UInt8.ofNat (n % 128)]
theorem numAcc_small {n:Nat} (h:n<128) (acc:List UInt8):numAcc n acc=acc:=by rw [numAcc];simp [h]
theorem numAcc_big {n:Nat} (h:¬n<128) (acc:List UInt8):numAcc n acc=numAcc (n / 128) (UInt8.ofNat (128+n / 128 % 128)::acc):=by rw [numAcc];simp [h]
theorem numAcc_len:∀(k n:Nat) (acc:List UInt8),n<128 ^ (k+1)→(numAcc n acc).length≤acc.length+k
 | 0,n,acc,h=>by rw [numAcc_small (by simpa using h)];omega
 | k+1,n,acc,h=>by
   by_cases hn:n<128
   ·rw [numAcc_small hn];omega
   ·rw [numAcc_big hn]
    have:=numAcc_len k (n / 128) (UInt8.ofNat (128+n / 128 % 128)::acc) (by rw [Nat.div_lt_iff_lt_mul qd,←Nat.pow_succ];exact h)
    rw [List.length_cons] at this;omega
theorem num_len (n:Nat) (h:n<18446744073709551616):(num n).length≤10:=by
 have:=numAcc_len 9 n [UInt8.ofNat (n % 128)] oe
 simpa [num] using this
theorem conv1 (w:World) (x:Nat) (y:Int) (hx:x<256) (hy:y=(x:Int)) :
 (convert 88 9 (.slice (some ⟨w.heap.size,0,none⟩) 1 1)).run Tryz.prog (w.alloc (.cells #[.int .u8 y] 5))=.ok (.string (bs [UInt8.ofNat x])) (w.alloc (.cells #[.int .u8 y] 5)):=by
 subst hy
 refine run_convert_bytes_back (P:=Tryz.prog) _ 88 9 5 ⟨w.heap.size,0,none⟩ 1 [UInt8.ofNat x] Tryz.underlying88 Tryz.underlying5 Tryz.underlying9 (fun j hj=>?_)
 have:j=0:=by simpa using hj
 subst this
 simp [Addr.add,UInt8.toNat_ofNat',Nat.mod_eq_of_lt hx]
theorem acc_short {l m n:Nat} (h:2 ^ l*m≤2*n) (hm:1≤m) (hn:n<18446744073709551616):l≤64:=by
 have h1:2 ^ l≤2*n:=Nat.le_trans (Nat.le_mul_of_pos_right _ hm) h
 have h2:2 ^ l<2 ^ 65:=Nat.lt_of_le_of_lt h1 oe
 have:=(Nat.pow_lt_pow_iff_right (by decide:1<2)).1 h2
 omega
theorem acc_step {l m n:Nat} (h:2 ^ l*m≤2*n):2 ^ (l+1)*(m / 128)≤2*n:=by
 have:2 ^ (l+1)*(m / 128)≤2 ^ l*m:=by
  rw [Nat.pow_succ,Nat.mul_assoc]
  exact Nat.mul_le_mul_left _ oe
 omega
theorem rnum_any (n:Nat) (w:World) (hn:n<18446744073709551616) :
 Calls Tryz.prog 124 #[.int .u64 n] w fun e w'=>e=.returned (.string (bs (num n)))∧Pure w w':=by
 have hc:=fun W=>conv1 W (n % 128) ((n:Int) % 128) oe oe
 have Hn:=hid hn
 clear hn
 go_enter Tryz.func124,Tryz.ntmps124
 go_wp2
 clear hc
 go_loopw [0,3] (fun v0 v3 wr=>∃(m:Nat) (acc:List UInt8),v0=.int .u64 m∧v3=.string (bs acc)∧numAcc m acc=num n∧m≤n∧2 ^ acc.length*m≤2*n∧Pure w wr) (fun v0 _ _=>(RowKit.intOf v0).toNat)
 case atStart=>exact ⟨n,_,rfl,rfl,rfl,Nat.le_refl _,by simp,qp⟩
 case round =>
  obtain ⟨m,acc,rfl,rfl,hacc,hm,hlen,hp⟩:=hrel
  by_cases hlt:m<128
  ·have hlt' : ¬(128:Int)≤(m:Int):=by omega
   have Hacc:=hid ((numAcc_small hlt acc).symm.trans hacc)
   have Hp:=hid hp
   clear hacc hlen hp
   go_wp2
   go_ret
   exact ⟨congrArg (fun l=>Ending.returned (.string (bs l))) Hacc.out,Hp.out⟩
  ·have hlt' : (128:Int)≤(m:Int):=by omega
   have hshort:=acc_short hlen oe Hn.out
   have Hlen:=hid (acc_step hlen)
   have Hacc:=hid ((numAcc_big hlt acc).symm.trans hacc)
   have Hp:=hid hp
   obtain ⟨k,hk⟩:=qe (m / 128)
   rw [←hk] at Hlen Hacc
   have hn':=Hn.out
   have hw1:IntKind.u64.wrap ((m:Int) / 128)=(k:Int):=by rw [IntWalk.u64_in _ oe];omega
   have hw2:IntKind.u64.wrap (128+(k:Int) % 128)=128+(k:Int) % 128:=IntWalk.u64_in _ oe
   have hw3:(128+(k:Int) % 128) % 256=128+(k:Int) % 128:=by omega
   have hkm:k<m:=by omega
   have hc:=fun W=>conv1 W (128+k % 128) (128+(k:Int) % 128) oe oe
   generalize UInt8.ofNat (128+k % 128)=b at *
   have hns:¬9223372036854775807<(bs [b]).size+(bs acc).size:=by rw [bs_size,bs_size];simp;omega
   clear hn' hk
   clear hacc hlen hp
   go_wp2
   go_roundw
   case rel=>exact ⟨k,b::acc,by go_num,by rw [bs_append];rfl,Hacc.out,by omega,by rw [List.length_cons];exact Hlen.out,Hp.out.alloc Hp.out.size _⟩
   case measure=>simp [RowKit.intOf];omega
theorem rint_any (n:Int) (w:World) (h0:0≤n) (hn:n<9223372036854775808) :
 Calls Tryz.prog 61 #[.int .i64 n] w fun e w'=>e=.returned (.string (bs (num n.toNat)))∧Pure w w':=by
 obtain ⟨k,rfl⟩ : ∃k:Nat,n=(k:Int):=⟨n.toNat,by omega⟩
 have hm:=hid (rnum_any k w oe)
 have hwr:IntKind.u64.wrap (k:Int)=(k:Int):=IntWalk.u64_in _ oe
 have h0' : ¬(k:Int)<0:=by omega
 have hmod:(k:Int) % 18446744073709551616=(k:Int):=by omega
 clear h0 hn
 go_enter Tryz.func61,Tryz.ntmps61
 go_wp2_with (go_at_call 124;refine hm.out.mono ?_;rintro e w' ⟨rfl,hp⟩;have Hp:=hid hp;clear hp)
 go_ret
 exact ⟨by simp,Hp.out⟩
theorem rtext_any (s:List UInt8) (w:World) (hn:s.length≤1000000) :
 Calls Tryz.prog 132 #[.string (bs s)] w fun e w'=>e=.returned (.string (bs (num s.length++s)))∧Pure w w':=by
 have hm:=hid (rnum_any s.length w oe)
 have hsz:=bs_size s
 have hmod:(s.length:Int) % 18446744073709551616=(s.length:Int):=by omega
 have hbig:=num_len s.length oe
 have hns:¬9223372036854775807<(bs (num s.length)).size+(bs s).size:=by rw [bs_size,bs_size];omega
 have happ:=hid (bs_append (num s.length) s)
 clear hn
 generalize bs (num s.length)=N at *
 generalize bs s=S at *
 go_enter Tryz.func132,Tryz.ntmps132
 go_wp2_with (go_at_call 124;refine hm.out.mono ?_;rintro e w' ⟨rfl,hp⟩;have Hp:=hid hp;clear hp)
 go_ret
 exact ⟨congrArg (fun x=>Ending.returned (.string x)) happ.out,Hp.out⟩
end
section
open Go.RowKit Go.Maps
structure Enc {α:Type} (f:α→List Value) (s:Nat):Prop where
 len:∀a,(f a).length=s
 one:∀a,∀u ∈ f a,u.oneCell'=true
def gvs {α:Type} (f:α→List Value) (l:List α):List Value:=l.flatMap f
def GRow {α:Type} (f:α→List Value) (s:Nat) (w:World) (v:Value) (l:List α):Prop:=Row w v l.length s (gvs f l)
section
variable {α:Type} {f:α→List Value} {s:Nat}
theorem gvs_len (h:Enc f s):∀l:List α,(gvs f l).length=l.length*s
 | []=>by simp [gvs]
 | a::l=>by
   have:=gvs_len h l
   have e:gvs f (a::l)=f a++gvs f l:=rfl
   rw [e,List.length_append,h.len,this,List.length_cons,Nat.succ_mul,Nat.add_comm]
theorem gvs_append (l k:List α):gvs f (l++k)=gvs f l++gvs f k:=by simp [gvs]
theorem gvs_one1 (a:α):gvs f [a]=f a:=by simp [gvs]
theorem gvs_get (h:Enc f s) (z:α):∀(l:List α) (k:Nat),k<l.length→∀j,j<s→(gvs f l)[k*s+j]?=(f (l.getD k z))[j]?
 | [],k,hk,_,_=>absurd hk (Nat.not_lt_zero _)
 | d::l,0,_,j,hj=>by
   have e:gvs f (d::l)=f d++gvs f l:=rfl
   rw [e,List.getElem?_append_left (by rw [h.len];omega)]
   simp [List.getD]
 | d::l,k+1,hk,j,hj=>by
   have ih:=gvs_get h z l k (by simpa using hk) j hj
   have e:gvs f (d::l)=f d++gvs f l:=rfl
   rw [e,List.getElem?_append_right (by rw [h.len,Nat.succ_mul];omega),h.len,show (k+1)*s+j-s=k*s+j by rw [Nat.succ_mul];omega,ih]
   simp [List.getD]
theorem gvs_cells (h:Enc f s) (l:List α):∀u ∈ gvs f l,u.oneCell'=true:=by
 intro u hu
 simp only [gvs,List.mem_flatMap] at hu
 obtain ⟨a,_,ha⟩:=hu
 exact h.one a u ha
theorem GRow.shape {w:World} {v:Value} {l:List α} (h:GRow f s w v l):∃a cap,v=.slice a l.length cap:=Row.shape h
theorem GRow.get {w:World} {a:Option Addr} {n cap:Nat} {l:List α} (h:GRow f s w (.slice a n cap) l) (hE:Enc f s) (z:α) {k:Nat} (hk:k<l.length) :
 ∃b off,a=some ⟨b,off,none⟩∧b<w.heap.size∧∀j,j<s→w.cell? ⟨b,off+k*s+j,none⟩=(f (l.getD k z))[j]?:=by
 have e:n=l.length:=by obtain ⟨a',c',e⟩:=h.shape;injection e
 subst e
 obtain ⟨b,off,e,hb,hc⟩:=Row.elem h hk
 exact ⟨b,off,e,hb,fun j hj=>(hc j hj).trans (gvs_get hE z l k hk j hj)⟩
theorem take_succ_g (z:α) (l:List α) (k:Nat) (h:k<l.length):l.take (k+1)=l.take k++[l.getD k z]:=by
 rw [List.take_succ_eq_append_getElem h];simp [List.getD,h]
theorem drop_g (z:α) (l:List α) (k:Nat) (h:k<l.length):l.drop k=l.getD k z::l.drop (k+1):=by
 rw [List.drop_eq_getElem_cons h];simp [List.getD,h]
theorem mem_get_g {z:α} {l:List α} {k:Nat} (h:k<l.length):l.getD k z ∈ l:=by simp [List.getD,h]
theorem lit_g (w:World) (t:TypeId) (x:α) (n:Nat) (hn:(f x).length=n) (hs:s=n):GRow f s (w.alloc (.cells (f x).toArray t)) (.slice (some ⟨w.heap.size,0,none⟩) 1 1) [x]:=by
 subst hs
 refine ⟨by rw [gvs_one1];simpa using hn,_,_,rfl,Nat.le_refl _,by unfold maxLen;omega,.inr ⟨_,_,rfl,by simp,fun i hi=>?_⟩⟩
 rw [Nat.zero_add,World.cell?_alloc_new,gvs_one1]
 simp
end
end
section
section
variable {α κ:Type} (key:α→κ) (lt:κ→κ→Prop)
def KS (l:List α):Prop:=l.Pairwise fun x y=>lt (key x) (key y)
variable {key lt}
theorem KS.nil:KS key lt ([]:List α):=List.Pairwise.nil
theorem KS.take {l:List α} (h:KS key lt l) (n:Nat):KS key lt (l.take n):=List.Pairwise.sublist (List.take_sublist _ _) h
variable (irr:∀a,¬lt a a) (tr:∀a b c,lt a b→lt b c→lt a c)
include irr tr in
theorem KS.eq_of_mem:∀{l m:List α},KS key lt l→KS key lt m→(∀x,x ∈ l↔x ∈ m)→l=m
 | [],[],_,_,_=>rfl
 | [],b::k,_,_,h=>absurd ((h b).2 qb) qb
 | a::l,[],_,_,h=>absurd ((h a).1 qb) qb
 | a::l,b::k,h1,h2,h=>by
   obtain ⟨p1,p2⟩:=List.pairwise_cons.1 h1
   obtain ⟨q1,q2⟩:=List.pairwise_cons.1 h2
   have hab:a=b:=by
    rcases List.mem_cons.1 ((h a).1 qb) with e|e
    ·exact e
    ·rcases List.mem_cons.1 ((h b).2 qb) with e'|e'
     ·exact e'.symm
     ·exact absurd (tr _ _ _ (q1 a e) (p1 b e')) (irr _)
   subst hab
   congr 1
   refine KS.eq_of_mem p2 q2 (fun d=>⟨fun hd=>?_,fun hd=>?_⟩)
   ·rcases List.mem_cons.1 ((h d).1 (List.mem_cons_of_mem _ hd)) with e|e
    ·subst e;exact absurd (p1 _ hd) (irr _)
    ·exact e
   ·rcases List.mem_cons.1 ((h d).2 (List.mem_cons_of_mem _ hd)) with e|e
    ·subst e;exact absurd (q1 _ hd) (irr _)
    ·exact e
end
section
variable {α κ:Type} [DecidableEq κ] (key:α→κ) (lt:κ→κ→Prop)
def kget (l:List α) (k:κ):Option α:=l.find? fun x=>decide (key x=k)
variable {key lt}
theorem kget_some {l:List α} {k:κ} {x:α} (h:kget key l k=some x):x ∈ l∧key x=k:=by
 have h1:=List.mem_of_find?_eq_some h
 have h2:=List.find?_some h
 exact ⟨h1,by simpa using h2⟩
theorem kget_none {l:List α} {k:κ}:kget key l k=none↔∀x ∈ l,key x≠k:=by
 unfold kget;rw [List.find?_eq_none];simp
theorem kget_nil (k:κ):kget key ([]:List α) k=none:=rfl
theorem kget_cons (x:α) (l:List α) (k:κ):kget key (x::l) k=if key x=k then some x else kget key l k:=by
 unfold kget;rw [List.find?_cons]
 by_cases h:key x=k <;> simp [h]
theorem kget_append (l m:List α) (k:κ):kget key (l++m) k=(kget key l k).or (kget key m k):=by
 unfold kget;rw [List.find?_append]
variable (irr:∀a,¬lt a a) (tr:∀a b c,lt a b→lt b c→lt a c)
include irr in
theorem KS.get_of_mem {l:List α} (h:KS key lt l) {x:α} (hx:x ∈ l):kget key l (key x)=some x:=by
 induction l with
 | nil=>simp at hx
 | cons a l ih =>
   obtain ⟨h1,h2⟩:=List.pairwise_cons.1 h
   rw [kget_cons]
   rcases List.mem_cons.1 hx with rfl|hx
   ·rw [if_pos rfl]
   ·rw [if_neg (fun e=>irr (key x) (by have:=h1 x hx;rw [e] at this;exact this))]
    exact ih h2 hx
include irr in
theorem KS.mem_get {l:List α} (h:KS key lt l) {x:α}:x ∈ l↔kget key l (key x)=some x :=
 ⟨h.get_of_mem irr,fun e=>(kget_some e).1⟩
include irr tr in
theorem KS.ext {l m:List α} (h1:KS key lt l) (h2:KS key lt m) (h:∀k,kget key l k=kget key m k):l=m :=
 KS.eq_of_mem irr tr h1 h2 (fun x=>by rw [h1.mem_get irr,h2.mem_get irr,h])
variable (lt) [∀a b,Decidable (lt a b)]
def kins (key:α→κ) (x:α):List α→List α
 | []=>[x]
 | a::l=>if key a=key x then x::l else if lt (key x) (key a) then x::a::l else a::kins key x l
variable {lt}
theorem kins_get (x:α):∀(l:List α) (k:κ),kget key (kins lt key x l) k=if key x=k then some x else kget key l k
 | [],k=>by rw [kins,kget_cons,kget_nil]
 | a::l,k=>by
   rw [kins]
   split
   ·rename_i h
    rw [kget_cons,kget_cons,h]
    by_cases hk:key x=k <;> simp [hk]
   ·rename_i h
    split
    ·rw [kget_cons]
    ·rw [kget_cons,kget_cons,kins_get x l k]
     by_cases hk:key a=k
     ·subst hk
      rw [if_pos rfl,if_neg (fun e=>h e.symm),if_pos rfl]
     ·rw [if_neg hk,if_neg hk]
theorem kins_mem (x:α):∀(l:List α) (y:α),y ∈ kins lt key x l→y=x∨y ∈ l
 | [],y,h=>by simp [kins] at h;exact .inl h
 | a::l,y,h=>by
   rw [kins] at h
   split at h
   ·rcases List.mem_cons.1 h with h|h
    ·exact .inl h
    ·exact .inr (List.mem_cons_of_mem _ h)
   ·split at h
    ·rcases List.mem_cons.1 h with h|h
     ·exact .inl h
     ·exact .inr h
    ·rcases List.mem_cons.1 h with h|h
     ·exact .inr (by simp [h])
     ·rcases kins_mem x l y h with h|h
      ·exact .inl h
      ·exact .inr (List.mem_cons_of_mem _ h)
variable (tot:∀a b,a≠b→¬lt a b→lt b a)
include tr tot in
theorem KS.ins (x:α):∀{l:List α},KS key lt l→KS key lt (kins lt key x l)
 | [],_=>List.pairwise_singleton _ _
 | a::l,h=>by
   obtain ⟨h1,h2⟩:=List.pairwise_cons.1 h
   rw [kins]
   split
   ·rename_i e
    exact List.pairwise_cons.2 ⟨fun y hy=>by rw [←e];exact h1 y hy,h2⟩
   ·rename_i e
    split
    ·rename_i hl
     refine List.pairwise_cons.2 ⟨fun y hy=>?_,h⟩
     rcases List.mem_cons.1 hy with rfl|hy
     ·exact hl
     ·exact tr _ _ _ hl (h1 y hy)
    ·rename_i hl
     refine List.pairwise_cons.2 ⟨fun y hy=>?_,KS.ins x h2⟩
     rcases kins_mem x l y hy with rfl|hy
     ·exact tot _ _ (fun e'=>e e'.symm) hl
     ·exact h1 y hy
end
end
end Go.Proofs.YtdlpnhfgjficgaaGreat
