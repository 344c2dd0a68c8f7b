import Derived.Test.YtdlpnhfgjficgaaGreatRW
import Derived.Laws.Cover3
namespace Go.Proofs.YtdlpnhfgjficgaaGreat
section
set_option maxHeartbeats 1000000
set_option maxRecDepth 8000
open Go.RowKit Go.Maps
theorem bcat1 (c:UInt8) (l:List UInt8):(⟨#[c]⟩ : ByteArray)++bs l=bs (c::l):=by
 apply ByteArray.ext
 simp [bs]
theorem bs_list1 (l:List UInt8):(bs l).toList=l:=ByteArray.toList_mk l
def SAt (n:Nat) (a u:Int) (r:List Value) (w:World):Prop:=w.heap[n]?=some (.cells (List.toArray (.int .i64 a :: .int .i64 u::r)) 69 (0,0))
theorem SAt.lt {n:Nat} {a u:Int} {r:List Value} {w:World} (h:SAt n a u r w):n<w.heap.size:=lob h
theorem SAt.kept {S:Nat→Prop} {n:Nat} {a u:Int} {r:List Value} {w w' : World} (h:SAt n a u r w) (hk:Kept S w w') (hS:¬S n):SAt n a u r w':=(hk.block n (lob h) hS).trans h
theorem SAt.pure {n:Nat} {a u:Int} {r:List Value} {w w' : World} (h:SAt n a u r w) (hp:Pure w w'):SAt n a u r w':=h.kept (S:=fun _=>False) hp.kept (fun h=>h)
theorem SAt.cells {n:Nat} {a u:Int} {r:List Value} {w:World} (h:SAt n a u r w):w.cell? ⟨n,0,none⟩=some (.int .i64 a)∧w.cell? ⟨n,1,none⟩=some (.int .i64 u)∧w.frozen? ⟨n,0,none⟩=false∧w.frozen? ⟨n,1,none⟩=false:=by
 have c0:=cob h 0
 have c1:=cob h 1
 simp at c0 c1
 exact ⟨c0,c1,fob h 0,fob h 1⟩
theorem SAt.set0 {n:Nat} {a u:Int} {r:List Value} {w:World} (h:SAt n a u r w) (b:Int):SAt n b u r (w.setCell ⟨n,0,none⟩ (.int .i64 b)):=by
 unfold SAt;have:=bsc h 0 (.int .i64 b);simpa using this
theorem SAt.set1 {n:Nat} {a u:Int} {r:List Value} {w:World} (h:SAt n a u r w) (b:Int):SAt n a b r (w.setCell ⟨n,1,none⟩ (.int .i64 b)):=by
 unfold SAt;have:=bsc h 1 (.int .i64 b);simpa using this
theorem snew_any (w:World):Calls Tryz.prog 12 #[] w fun e w'=>e=.returned (.pointer (some ⟨w.heap.size,0,none⟩))∧SAt w.heap.size 0 0 (List.replicate 51 (.slice none 0 0)) w'∧Pure w w':=by
 go_enter Tryz.func12,Tryz.ntmps12
 go_wp2
 go_ret
 exact ⟨rfl,ban _ _,qp⟩
theorem sborn_any (n:Int) (w:World) (h0:0≤n) (hn:n<9223372036854775808):Calls Tryz.prog 19 #[.int .i64 n] w fun e w'=>e=.returned (.string (bs (73::num n.toNat)))∧Pure w w':=by
 have h:=hid (mint_any n w h0 hn)
 have hc:=bcat1 73 (num n.toNat)
 have hl:¬(9223372036854775807:Int)<1+((bs (num n.toNat)).size:Int):=by
  rw [bs_size]
  have h1:=num_nd n.toNat oe
  have h2:=nd_le n.toNat oe
  omega
 have hl2:¬9223372036854775807<1+(bs (num n.toNat)).size:=by omega
 clear h0 hn
 generalize num n.toNat=l at *
 go_enter Tryz.func19,Tryz.ntmps19
 go_wp2_with (go_at_call 60;refine h.out.mono ?_;rintro e w1 ⟨rfl,hp1⟩;have Hp1:=hid hp1;clear hp1)
 go_ret
 exact ⟨rfl,Hp1.out⟩
theorem sreserve_any (n:Int) (w:World) (h0:0≤n) (hn:n<9223372036854775808):Calls Tryz.prog 21 #[.int .i64 n] w fun e w'=>e=.returned (.string (bs (82::num n.toNat)))∧Pure w w':=by
 have h:=hid (mint_any n w h0 hn)
 have hc:=bcat1 82 (num n.toNat)
 have hl:¬(9223372036854775807:Int)<1+((bs (num n.toNat)).size:Int):=by
  rw [bs_size]
  have h1:=num_nd n.toNat oe
  have h2:=nd_le n.toNat oe
  omega
 have hl2:¬9223372036854775807<1+(bs (num n.toNat)).size:=by omega
 clear h0 hn
 generalize num n.toNat=l at *
 go_enter Tryz.func21,Tryz.ntmps21
 go_wp2_with (go_at_call 60;refine h.out.mono ?_;rintro e w1 ⟨rfl,hp1⟩;have Hp1:=hid hp1;clear hp1)
 go_ret
 exact ⟨rfl,Hp1.out⟩
theorem sid_any (n:Nat) (a u:Int) (r:List Value) (w:World) (h:SAt n a u r w):Calls Tryz.prog 35 #[.pointer (some ⟨n,0,none⟩)] w fun e w'=>e=.returned (.int .i64 a)∧Pure w w':=by
 obtain ⟨c0,c1,-,-⟩:=h.cells
 clear h
 go_enter Tryz.func35,Tryz.ntmps35
 go_wp2
 go_ret
 exact ⟨rfl,Below.refl _ _⟩
theorem supto_any (n:Nat) (a u:Int) (r:List Value) (w:World) (h:SAt n a u r w):Calls Tryz.prog 36 #[.pointer (some ⟨n,0,none⟩)] w fun e w'=>e=.returned (.int .i64 u)∧Pure w w':=by
 obtain ⟨c0,c1,-,-⟩:=h.cells
 clear h
 go_enter Tryz.func36,Tryz.ntmps36
 go_wp2
 go_ret
 exact ⟨rfl,Below.refl _ _⟩
theorem mend_any (b:Nat) (s:RS) (w:World) (h:RdAt 117 b s w) :
 Calls Tryz.prog 46 #[.pointer (some ⟨b,0,none⟩)] w fun e w'=>e=.returned (.int .i64 (if s=some [] then 0 else 10))∧Pure w w':=by
 have hf:=hid (fine_any b s w h)
 obtain ⟨z,hz⟩ : ∃z:Int,z=if s=some [] then 0 else 10:=⟨_,rfl⟩
 rw [←hz]
 obtain ⟨l,t,e,rfl⟩:=h
 have c0:=cob e 0
 simp at c0
 have he0:(bs []).toList.isEmpty=true:=by rw [bs_list1];rfl
 cases t
 ·cases l with
  | nil =>
    obtain rfl:z=0:=by rw [hz];simp
    clear hz
    go_enter Tryz.func46,Tryz.ntmps46
    go_wp2_with (go_at_call 100;refine hf.out.mono ?_;rintro e w1 ⟨rfl,hp1⟩;have c1:=(hp1.cell (p:=⟨b,0,none⟩) (lob e)).trans c0;have Hp1:=hid hp1;clear hp1)
    go_ret
    exact ⟨rfl,Hp1.out⟩
  | cons c r =>
    obtain rfl:z=10:=by rw [hz];simp
    have he1:(bs (c::r)).toList.isEmpty=false:=by rw [bs_list1];rfl
    clear hz
    go_enter Tryz.func46,Tryz.ntmps46
    go_wp2_with (go_at_call 100;refine hf.out.mono ?_;rintro e w1 ⟨rfl,hp1⟩;have c1:=(hp1.cell (p:=⟨b,0,none⟩) (lob e)).trans c0;have Hp1:=hid hp1;clear hp1)
    go_ret
    exact ⟨rfl,Hp1.out⟩
 ·obtain rfl:z=10:=by rw [hz];simp
  try clear hz
  go_enter Tryz.func46,Tryz.ntmps46
  go_wp2_with (go_at_call 100;refine hf.out.mono ?_;rintro e w1 ⟨rfl,hp1⟩;have Hp1:=hid hp1;clear hp1)
  go_ret
  exact ⟨rfl,Hp1.out⟩
end
section
open Go.RowKit Go.Maps
theorem run_eqIn_ff {P:Program} (w:World) (d:Nat) (t:TypeId) (ps rs:Array TypeId) (v:Bool) (h:P.underlying t=some (.func ps rs v)):(Op.equalIn (d+1) t .nilFunc .nilFunc).run P w=.ok true w:=by
 simp [Op.equalIn,run_underlying h]
theorem run_eqIn_fn {P:Program} (w:World) (d:Nat) (t:TypeId) (ps rs:Array TypeId) (v:Bool) (f:Fn) (a b:Array Value) (h:P.underlying t=some (.func ps rs v)):(Op.equalIn (d+1) t (.func f a b) .nilFunc).run P w=.ok false w:=by
 simp [Op.equalIn,run_underlying h]
theorem nf1 (W:World):(binOp BinOp.eql 1 .nilFunc .nilFunc).run Tryz.prog W=.ok (.bool true) W:=by
 have h' : (Op.equal 1 .nilFunc .nilFunc).run Tryz.prog W=.ok true W:=run_eqIn_ff W 9999 _ _ _ _ Tryz.underlying1
 simp only [binOp]
 simp [h']
theorem nf2 (W:World) (f:Fn) (a b:Array Value):(binOp BinOp.eql 1 (.func f a b) .nilFunc).run Tryz.prog W=.ok (.bool false) W:=by
 have h' : (Op.equal 1 (.func f a b) .nilFunc).run Tryz.prog W=.ok false W:=run_eqIn_fn W 9999 _ _ _ _ f a b Tryz.underlying1
 simp only [binOp]
 simp [h']
end
section
set_option maxHeartbeats 2000000
set_option maxRecDepth 8000
open Go.RowKit Go.Maps
structure RdC (n b p q:Nat) (v:Int) (s:RS) (w0 w:World):Prop where
 p:w.heap[p]?=some (.cells #[.int .i64 v] 3 (0,0))
 q:w.heap[q]?=some (.cells #[.pointer (some ⟨n,0,none⟩)] 24 (0,0))
 r:RdAt 117 b s w
 k:Kept (fun k=>k=b) w0 w
theorem sread_bornbad (n b:Nat) (s:RS) (w:World) (h:RdAt 117 b s w) (hv:(rdInt 1099511627776 s).1<1) :
 Calls Tryz.prog 45 #[.pointer (some ⟨n,0,none⟩),.string ⟨#[73]⟩,.pointer (some ⟨b,0,none⟩)] w fun e w'=>e=.returned .nilFunc∧RdAt 117 b (rdInt 1099511627776 s).2 w'∧Kept (fun k=>k=b) w w':=by
 have hlt:=h.lt
 obtain ⟨W1,hW1⟩:=qe (w.alloc (.cells #[.pointer (some ⟨n,0,none⟩)] 24))
 have P1:=qh (Pure w W1) (by rw [hW1];exact qp)
 have Q1:=qh (W1.heap[w.heap.size]?=some (.cells #[.pointer (some ⟨n,0,none⟩)] 24 (0,0))) (by rw [hW1];exact ban _ _)
 have hi:=hid (mintr_any b s 1099511627776 W1 (h.pure P1.out) oe oe)
 unfold RdP at hi
 have hmf:∀(fn:Fn) (first cap:Array Value) (w:World),(Instr.makeFunc fn first cap).run Tryz.prog w=.ok (.func fn first cap) w:=fun _ _ _ _=>rfl
 have Hlt:=hid hlt
 clear h hlt
 generalize rdInt 1099511627776 s=R at *
 obtain ⟨v,s1⟩:=R
 dsimp only at hi hv ⊢
 go_enter Tryz.func45,Tryz.ntmps45
 go_wp2_with fail
 rw [←hW1]
 clear hW1
 refine hi.out.mono ?_
 rintro e w2 ⟨rfl,hr2,hk2⟩
 have Hr2:=hid hr2
 have Hk2:=hid hk2
 clear hr2 hk2
 go_wp2
 go_ret
 exact ⟨rfl,Hr2.out.pure (by exact qp),(P1.out.kept.trans Hk2.out).alloc _⟩
theorem sread_born (n b:Nat) (s:RS) (w:World) (h:RdAt 117 b s w) (hv:¬(rdInt 1099511627776 s).1<1) :
 Calls Tryz.prog 45 #[.pointer (some ⟨n,0,none⟩),.string ⟨#[73]⟩,.pointer (some ⟨b,0,none⟩)] w fun e w'=>∃p q,e=.returned (.func (.func 87) #[] #[.pointer (some ⟨p,0,none⟩),.pointer (some ⟨q,0,none⟩)])∧RdC n b p q (rdInt 1099511627776 s).1 (rdInt 1099511627776 s).2 w w':=by
 have hlt:=h.lt
 obtain ⟨W1,hW1⟩:=qe (w.alloc (.cells #[.pointer (some ⟨n,0,none⟩)] 24))
 have P1:=qh (Pure w W1) (by rw [hW1];exact qp)
 have Q1:=qh (W1.heap[w.heap.size]?=some (.cells #[.pointer (some ⟨n,0,none⟩)] 24 (0,0))) (by rw [hW1];exact ban _ _)
 have hi:=hid (mintr_any b s 1099511627776 W1 (h.pure P1.out) oe oe)
 unfold RdP at hi
 have hmf:∀(fn:Fn) (first cap:Array Value) (w:World),(Instr.makeFunc fn first cap).run Tryz.prog w=.ok (.func fn first cap) w:=fun _ _ _ _=>rfl
 have Hlt:=hid hlt
 clear h hlt
 generalize rdInt 1099511627776 s=R at *
 obtain ⟨v,s1⟩:=R
 dsimp only at hi hv ⊢
 go_enter Tryz.func45,Tryz.ntmps45
 go_wp2_with fail
 rw [←hW1]
 clear hW1
 refine hi.out.mono ?_
 rintro e w2 ⟨rfl,hr2,hk2⟩
 have Hr2:=hid hr2
 have Hk2:=hid hk2
 clear hr2 hk2
 go_wp2
 go_ret
 have hq:w2.heap[w.heap.size]?=some (.cells #[.pointer (some ⟨n,0,none⟩)] 24 (0,0)):=(Hk2.out.block _ (lob Q1.out) (by have:=Hlt.out;omega)).trans Q1.out
 exact ⟨_,_,rfl,ban _ _,bao hq _,Hr2.out.pure (by exact qp),(P1.out.kept.trans Hk2.out).alloc _⟩
theorem sread_resbad (n b:Nat) (s:RS) (w:World) (h:RdAt 117 b s w) (hv:(rdInt 1099511627776 s).1<1) :
 Calls Tryz.prog 45 #[.pointer (some ⟨n,0,none⟩),.string ⟨#[82]⟩,.pointer (some ⟨b,0,none⟩)] w fun e w'=>e=.returned .nilFunc∧RdAt 117 b (rdInt 1099511627776 s).2 w'∧Kept (fun k=>k=b) w w':=by
 have hlt:=h.lt
 obtain ⟨W1,hW1⟩:=qe (w.alloc (.cells #[.pointer (some ⟨n,0,none⟩)] 24))
 have P1:=qh (Pure w W1) (by rw [hW1];exact qp)
 have Q1:=qh (W1.heap[w.heap.size]?=some (.cells #[.pointer (some ⟨n,0,none⟩)] 24 (0,0))) (by rw [hW1];exact ban _ _)
 have hi:=hid (mintr_any b s 1099511627776 W1 (h.pure P1.out) oe oe)
 unfold RdP at hi
 have hmf:∀(fn:Fn) (first cap:Array Value) (w:World),(Instr.makeFunc fn first cap).run Tryz.prog w=.ok (.func fn first cap) w:=fun _ _ _ _=>rfl
 have Hlt:=hid hlt
 clear h hlt
 generalize rdInt 1099511627776 s=R at *
 obtain ⟨v,s1⟩:=R
 dsimp only at hi hv ⊢
 go_enter Tryz.func45,Tryz.ntmps45
 go_wp2_with fail
 rw [←hW1]
 clear hW1
 refine hi.out.mono ?_
 rintro e w2 ⟨rfl,hr2,hk2⟩
 have Hr2:=hid hr2
 have Hk2:=hid hk2
 clear hr2 hk2
 go_wp2
 go_ret
 exact ⟨rfl,Hr2.out.pure (by exact qp),(P1.out.kept.trans Hk2.out).alloc _⟩
theorem sread_res (n b:Nat) (s:RS) (w:World) (h:RdAt 117 b s w) (hv:¬(rdInt 1099511627776 s).1<1) :
 Calls Tryz.prog 45 #[.pointer (some ⟨n,0,none⟩),.string ⟨#[82]⟩,.pointer (some ⟨b,0,none⟩)] w fun e w'=>∃p q,e=.returned (.func (.func 88) #[] #[.pointer (some ⟨q,0,none⟩),.pointer (some ⟨p,0,none⟩)])∧RdC n b p q (rdInt 1099511627776 s).1 (rdInt 1099511627776 s).2 w w':=by
 have hlt:=h.lt
 obtain ⟨W1,hW1⟩:=qe (w.alloc (.cells #[.pointer (some ⟨n,0,none⟩)] 24))
 have P1:=qh (Pure w W1) (by rw [hW1];exact qp)
 have Q1:=qh (W1.heap[w.heap.size]?=some (.cells #[.pointer (some ⟨n,0,none⟩)] 24 (0,0))) (by rw [hW1];exact ban _ _)
 have hi:=hid (mintr_any b s 1099511627776 W1 (h.pure P1.out) oe oe)
 unfold RdP at hi
 have hmf:∀(fn:Fn) (first cap:Array Value) (w:World),(Instr.makeFunc fn first cap).run Tryz.prog w=.ok (.func fn first cap) w:=fun _ _ _ _=>rfl
 have Hlt:=hid hlt
 clear h hlt
 generalize rdInt 1099511627776 s=R at *
 obtain ⟨v,s1⟩:=R
 dsimp only at hi hv ⊢
 go_enter Tryz.func45,Tryz.ntmps45
 go_wp2_with fail
 rw [←hW1]
 clear hW1
 refine hi.out.mono ?_
 rintro e w2 ⟨rfl,hr2,hk2⟩
 have Hr2:=hid hr2
 have Hk2:=hid hk2
 clear hr2 hk2
 go_wp2
 go_ret
 have hq:w2.heap[w.heap.size]?=some (.cells #[.pointer (some ⟨n,0,none⟩)] 24 (0,0)):=(Hk2.out.block _ (lob Q1.out) (by have:=Hlt.out;omega)).trans Q1.out
 exact ⟨_,_,rfl,ban _ _,bao hq _,Hr2.out.pure (by exact qp),(P1.out.kept.trans Hk2.out).alloc _⟩
theorem sclos_born (n p q:Nat) (v a u:Int) (r:List Value) (w:World) (h:SAt n a u r w) (hp:w.heap[p]?=some (.cells #[.int .i64 v] 3 (0,0))) (hq:w.heap[q]?=some (.cells #[.pointer (some ⟨n,0,none⟩)] 24 (0,0))) :
 Calls Tryz.prog 87 #[.pointer (some ⟨p,0,none⟩),.pointer (some ⟨q,0,none⟩)] w fun e w'=>e=.returned (.tuple #[])∧SAt n v u r w'∧Kept (fun k=>k=n) w w':=by
 obtain ⟨c0,c1,f0,f1⟩:=h.cells
 have p0:=cob hp 0
 have q0:=cob hq 0
 simp at p0 q0
 have H:=hid (h.set0 v)
 clear h hp hq
 go_enter Tryz.func87,Tryz.ntmps87
 go_wp2
 go_end0
 exact ⟨rfl,H.out,Kept.setCell (S:=fun k=>k=n) (p:=⟨n,0,none⟩) (Kept.refl _ _) (fun _=>rfl) _⟩
theorem bs_beq1 (a b:List UInt8):((bs a).toList == (bs b).toList)=decide (a=b):=by
 rw [bs_list1,bs_list1]
 by_cases h:a=b
 ·simp [h]
 ·simp [h]
def apI (a:Int) (l:List UInt8):Int × Int :=
 if (rdInt 1099511627776 (some l)).1<1∨(rdInt 1099511627776 (some l)).2≠some [] then (a,10)
 else if a≠0∧num a.toNat≠l then (a,13) else ((rdInt 1099511627776 (some l)).1,0)
theorem sapply_born (n:Nat) (a u:Int) (r:List Value) (l:List UInt8) (w:World) (h:SAt n a u r w) (ha:0≤a) (ha2:a<9223372036854775808) :
 Calls Tryz.prog 14 #[.pointer (some ⟨n,0,none⟩),.string (bs (73::l))] w fun e w'=>e=.returned (.int .i64 (apI a l).2)∧SAt n (apI a l).1 u r w'∧Kept (fun k=>k=n) w w':=by
 have hlt:=hid h.lt
 have H:=hid h
 have hmr:=hid (mread_any l w)
 have hrb:=hid (fun W (hW:RdAt 117 w.heap.size (some l) W)=>sread_bornbad n w.heap.size (some l) W hW)
 have hrd:=hid (fun W (hW:RdAt 117 w.heap.size (some l) W)=>sread_born n w.heap.size (some l) W hW)
 have hbo:=hid (fun W=>sborn_any a W ha ha2)
 have hx1:(bs (73::l)).extract 0 1=⟨#[73]⟩:=by
  rw [bs_take];rfl
 have hx2:(bs (73::l)).extract 1 (l.length+1)=bs l:=by
  rw [bs_drop _ _ _ qb];rfl
 have hsz:(bs (73::l)).size=l.length+1:=by rw [bs_size];simp
 have hne:((bs (73::l)).toList=[])=False:=by rw [bs_list1];simp
 have hne2:((bs (73::l)).toList == [])=false:=by rw [bs_list1];rfl
 have hA:=qh (apI a l=if (rdInt 1099511627776 (some l)).1<1∨(rdInt 1099511627776 (some l)).2≠some [] then (a,10) else if a≠0∧num a.toNat≠l then (a,13) else ((rdInt 1099511627776 (some l)).1,0)) (rfl)
 generalize apI a l=Z at *
 generalize rdInt 1099511627776 (some l)=R at *
 obtain ⟨v,s1⟩:=R
 dsimp only at hrd hrb hA
 have hbe:=bs_beq1 (73::num a.toNat) (73::l)
 have hbd:decide (73::num a.toNat=73::l)=decide (num a.toNat=l):=by simp
 rw [hbd] at hbe
 have hend:=hid (fun W (hW:RdAt 117 w.heap.size s1 W)=>mend_any w.heap.size s1 W hW)
 have hnf1:=nf1
 have hnf2:=nf2
 clear h ha ha2 hbd
 generalize num a.toNat=A at *
 by_cases hv:v<1
 ·have hZ:Z=(a,10):=by rw [hA.out,if_pos (.inl hv)]
  subst hZ
  have hrd':=hid (fun W hW=>hrb.out W hW hv)
  clear hrd hrb hbe
  go_enter Tryz.func14,Tryz.ntmps14
  go_wp2_with (first
   | (go_at_call 44;refine hmr.out.mono ?_;rintro e w1 ⟨rfl,hr1,hp1⟩;have Hr1:=hid hr1;have Hp1:=hid hp1;clear hr1 hp1)
   | (go_at_call 45;refine (hrd'.out _ Hr1.out).mono ?_;rintro e w2 ⟨rfl,hr2,hk2⟩;have Hk2:=hid hk2;clear hr2 hk2))
  go_ret
  exact ⟨rfl,(H.out.pure Hp1.out).kept Hk2.out (by have:=hlt.out;omega),Kept.then_ (T:=fun k=>k=w.heap.size) Hp1.out.kept Hk2.out (fun k hk e=>by subst e;exact absurd hk oe)⟩
 ·have hrd':=hid (fun W hW=>hrd.out W hW hv)
  clear hrd hrb
  by_cases hs:s1=some []
  ·subst hs
   have hend':=hid (fun W hW=>(show Calls Tryz.prog 46 #[.pointer (some ⟨w.heap.size,0,none⟩)] W fun e w'=>e=.returned (.int .i64 0)∧Pure W w' from by have:=hend.out W hW;rw [if_pos rfl] at this;exact this))
   clear hend
   by_cases h0:a=0
   ·subst h0
    have hZ:Z=(v,0):=by rw [hA.out,if_neg (by rintro (h|h);exact hv h;exact h rfl)];exact if_neg (by rintro ⟨h,_⟩;exact h rfl)
    subst hZ
    clear hbe hv
    go_enter Tryz.func14,Tryz.ntmps14
    go_wp2_with (first
     | (go_at_call 44;refine hmr.out.mono ?_;rintro e w1 ⟨rfl,hr1,hp1⟩;have Hr1:=hid hr1;have Hp1:=hid hp1;clear hr1 hp1)
     | (go_at_call 45;refine (hrd'.out _ Hr1.out).mono ?_;rintro e w2 ⟨p,q,rfl,hc⟩;have HC:=hid hc;have HK:=qh (Kept (fun k=>k=n) w w2) (Kept.then_ (T:=fun k=>k=w.heap.size) Hp1.out.kept hc.k (fun k hk e=>by subst e;exact absurd hk oe));have HS:=hid ((H.out.pure Hp1.out).kept hc.k (by have:=hlt.out;omega));clear hc)
     | (go_at_call 46;refine (hend'.out _ HC.out.r).mono ?_;rintro e w3 ⟨rfl,hp3⟩;have HP3:=hid hp3;obtain ⟨c0,c1,f0,f1⟩:=(HS.out.pure hp3).cells;clear hp3)
     | (go_at_call 87;refine (sclos_born n p q v _ u r _ (HS.out.pure HP3.out) ((HP3.out.block _ (lob HC.out.p)).trans HC.out.p) ((HP3.out.block _ (lob HC.out.q)).trans HC.out.q)).mono ?_;rintro e w5 ⟨rfl,hs5,hk5⟩;have HS5:=hid hs5;have HK5:=hid hk5;clear hs5 hk5))
    go_ret
    exact ⟨rfl,HS5.out,(HK.out.trans HP3.out.kept).trans HK5.out⟩
   ·by_cases hl:A=l
    ·subst hl
     have hbe' : ((bs (73::A)).toList == (bs (73::A)).toList)=true:=by simp
     have hbn:((bs (73::A)).toList != (bs (73::A)).toList)=false:=by simp
     have hZ:Z=(v,0):=by rw [hA.out,if_neg (by rintro (h|h);exact hv h;exact h rfl)];exact if_neg (by rintro ⟨_,h⟩;exact h rfl)
     subst hZ
     clear hbe hv
     have h0n:(a != 0)=true:=by simpa using h0
     go_enter Tryz.func14,Tryz.ntmps14
     go_wp2_with (first
      | (go_at_call 44;refine hmr.out.mono ?_;rintro e w1 ⟨rfl,hr1,hp1⟩;have Hr1:=hid hr1;have Hp1:=hid hp1;clear hr1 hp1)
      | (go_at_call 45;refine (hrd'.out _ Hr1.out).mono ?_;rintro e w2 ⟨p,q,rfl,hc⟩;have HC:=hid hc;have HK:=qh (Kept (fun k=>k=n) w w2) (Kept.then_ (T:=fun k=>k=w.heap.size) Hp1.out.kept hc.k (fun k hk e=>by subst e;exact absurd hk oe));have HS:=hid ((H.out.pure Hp1.out).kept hc.k (by have:=hlt.out;omega));clear hc)
      | (go_at_call 46;refine (hend'.out _ HC.out.r).mono ?_;rintro e w3 ⟨rfl,hp3⟩;have HP3:=hid hp3;obtain ⟨c0,c1,f0,f1⟩:=(HS.out.pure hp3).cells;clear hp3)
      | (go_at_call 19;refine (hbo.out _).mono ?_;rintro e w4 ⟨rfl,hp4⟩;have HP4:=hid hp4;clear hp4)
      | (go_at_call 87;refine (sclos_born n p q v _ u r _ (HS.out.pure (HP3.out.then_ HP4.out)) (((HP3.out.then_ HP4.out).block _ (lob HC.out.p)).trans HC.out.p) (((HP3.out.then_ HP4.out).block _ (lob HC.out.q)).trans HC.out.q)).mono ?_;rintro e w5 ⟨rfl,hs5,hk5⟩;have HS5:=hid hs5;have HK5:=hid hk5;clear hs5 hk5))
     go_ret
     exact ⟨rfl,HS5.out,(HK.out.trans (HP3.out.then_ HP4.out).kept).trans HK5.out⟩
    ·have hbn:((bs (73::A)).toList != (bs (73::l)).toList)=true:=by simp only [bne,hbe];simpa using hl
     have hbe' : ((bs (73::A)).toList == (bs (73::l)).toList)=false:=by rw [hbe];simpa using hl
     have hZ:Z=(a,13):=by rw [hA.out,if_neg (by rintro (h|h);exact hv h;exact h rfl)];exact if_pos ⟨h0,hl⟩
     subst hZ
     clear hbe hv
     have h0n:(a != 0)=true:=by simpa using h0
     go_enter Tryz.func14,Tryz.ntmps14
     go_wp2_with (first
      | (go_at_call 44;refine hmr.out.mono ?_;rintro e w1 ⟨rfl,hr1,hp1⟩;have Hr1:=hid hr1;have Hp1:=hid hp1;clear hr1 hp1)
      | (go_at_call 45;refine (hrd'.out _ Hr1.out).mono ?_;rintro e w2 ⟨p,q,rfl,hc⟩;have HC:=hid hc;have HK:=qh (Kept (fun k=>k=n) w w2) (Kept.then_ (T:=fun k=>k=w.heap.size) Hp1.out.kept hc.k (fun k hk e=>by subst e;exact absurd hk oe));have HS:=hid ((H.out.pure Hp1.out).kept hc.k (by have:=hlt.out;omega));clear hc)
      | (go_at_call 46;refine (hend'.out _ HC.out.r).mono ?_;rintro e w3 ⟨rfl,hp3⟩;have HP3:=hid hp3;obtain ⟨c0,c1,f0,f1⟩:=(HS.out.pure hp3).cells;clear hp3)
      | (go_at_call 19;refine (hbo.out _).mono ?_;rintro e w4 ⟨rfl,hp4⟩;have HP4:=hid hp4;clear hp4))
     go_ret
     exact ⟨rfl,HS.out.pure (HP3.out.then_ HP4.out),HK.out.trans (HP3.out.then_ HP4.out).kept⟩
  ·have hend':=hid (fun W hW=>(show Calls Tryz.prog 46 #[.pointer (some ⟨w.heap.size,0,none⟩)] W fun e w'=>e=.returned (.int .i64 10)∧Pure W w' from by have:=hend.out W hW;rw [if_neg hs] at this;exact this))
   have hZ:Z=(a,10):=by rw [hA.out,if_pos (.inr hs)]
   subst hZ
   clear hend hbe hs hv
   go_enter Tryz.func14,Tryz.ntmps14
   go_wp2_with (first
    | (go_at_call 44;refine hmr.out.mono ?_;rintro e w1 ⟨rfl,hr1,hp1⟩;have Hr1:=hid hr1;have Hp1:=hid hp1;clear hr1 hp1)
    | (go_at_call 45;refine (hrd'.out _ Hr1.out).mono ?_;rintro e w2 ⟨p,q,rfl,hc⟩;have HC:=hid hc;have HK:=qh (Kept (fun k=>k=n) w w2) (Kept.then_ (T:=fun k=>k=w.heap.size) Hp1.out.kept hc.k (fun k hk e=>by subst e;exact absurd hk oe));have HS:=hid ((H.out.pure Hp1.out).kept hc.k (by have:=hlt.out;omega));clear hc)
    | (go_at_call 46;refine (hend'.out _ HC.out.r).mono ?_;rintro e w3 ⟨rfl,hp3⟩;have HP3:=hid hp3;obtain ⟨c0,c1,f0,f1⟩:=(HS.out.pure hp3).cells;clear hp3))
   go_ret
   exact ⟨rfl,HS.out.pure HP3.out,HK.out.trans HP3.out.kept⟩
end
section
set_option maxHeartbeats 2000000
set_option maxRecDepth 8000
open Go.RowKit Go.Maps
theorem sclos_res (n p q:Nat) (v a u:Int) (r:List Value) (w:World) (h:SAt n a u r w) (hp:w.heap[p]?=some (.cells #[.int .i64 v] 3 (0,0))) (hq:w.heap[q]?=some (.cells #[.pointer (some ⟨n,0,none⟩)] 24 (0,0))) :
 Calls Tryz.prog 88 #[.pointer (some ⟨q,0,none⟩),.pointer (some ⟨p,0,none⟩)] w fun e w'=>e=.returned (.tuple #[])∧SAt n a (max u v) r w'∧Kept (fun k=>k=n) w w':=by
 obtain ⟨c0,c1,f0,f1⟩:=h.cells
 have p0:=cob hp 0
 have q0:=cob hq 0
 simp at p0 q0
 have H:=hid (h.set1 (max u v))
 clear h hp hq
 go_enter Tryz.func88,Tryz.ntmps88
 go_wp2_with fail
 go_region_law (fail)
 all_goals
  go_end0
  exact ⟨rfl,H.out,(Kept.setCell (S:=fun k=>k=n) (p:=⟨n,1,none⟩) (Kept.refl _ _) (fun _=>rfl) _).drew⟩
def apR (u:Int) (l:List UInt8):Int × Int :=
 if (rdInt 1099511627776 (some l)).1<1∨(rdInt 1099511627776 (some l)).2≠some [] then (u,10) else (max u (rdInt 1099511627776 (some l)).1,0)
theorem sapply_res (n:Nat) (a u:Int) (r:List Value) (l:List UInt8) (w:World) (h:SAt n a u r w) :
 Calls Tryz.prog 14 #[.pointer (some ⟨n,0,none⟩),.string (bs (82::l))] w fun e w'=>e=.returned (.int .i64 (apR u l).2)∧SAt n a (apR u l).1 r w'∧Kept (fun k=>k=n) w w':=by
 have hlt:=hid h.lt
 have H:=hid h
 have hmr:=hid (mread_any l w)
 have hrb:=hid (fun W (hW:RdAt 117 w.heap.size (some l) W)=>sread_resbad n w.heap.size (some l) W hW)
 have hrd:=hid (fun W (hW:RdAt 117 w.heap.size (some l) W)=>sread_res n w.heap.size (some l) W hW)
 have hx1:(bs (82::l)).extract 0 1=⟨#[82]⟩:=by
  rw [bs_take];rfl
 have hx2:(bs (82::l)).extract 1 (l.length+1)=bs l:=by
  rw [bs_drop _ _ _ qb];rfl
 have hsz:(bs (82::l)).size=l.length+1:=by rw [bs_size];simp
 have hne:((bs (82::l)).toList=[])=False:=by rw [bs_list1];simp
 have hne2:((bs (82::l)).toList == [])=false:=by rw [bs_list1];rfl
 have hA:=qh (apR u l=if (rdInt 1099511627776 (some l)).1<1∨(rdInt 1099511627776 (some l)).2≠some [] then (u,10) else (max u (rdInt 1099511627776 (some l)).1,0)) (rfl)
 generalize apR u l=Z at *
 generalize rdInt 1099511627776 (some l)=R at *
 obtain ⟨v,s1⟩:=R
 dsimp only at hrd hrb hA
 have hend:=hid (fun W (hW:RdAt 117 w.heap.size s1 W)=>mend_any w.heap.size s1 W hW)
 have hnf1:=nf1
 have hnf2:=nf2
 clear h
 by_cases hv:v<1
 ·have hZ:Z=(u,10):=by rw [hA.out,if_pos (.inl hv)]
  subst hZ
  have hrd':=hid (fun W hW=>hrb.out W hW hv)
  clear hrd hrb
  go_enter Tryz.func14,Tryz.ntmps14
  go_wp2_with (first
   | (go_at_call 44;refine hmr.out.mono ?_;rintro e w1 ⟨rfl,hr1,hp1⟩;have Hr1:=hid hr1;have Hp1:=hid hp1;clear hr1 hp1)
   | (go_at_call 45;refine (hrd'.out _ Hr1.out).mono ?_;rintro e w2 ⟨rfl,hr2,hk2⟩;have Hk2:=hid hk2;clear hr2 hk2))
  go_ret
  exact ⟨rfl,(H.out.pure Hp1.out).kept Hk2.out (by have:=hlt.out;omega),Kept.then_ (T:=fun k=>k=w.heap.size) Hp1.out.kept Hk2.out (fun k hk e=>by subst e;exact absurd hk oe)⟩
 ·have hrd':=hid (fun W hW=>hrd.out W hW hv)
  clear hrd hrb
  by_cases hs:s1=some []
  ·subst hs
   have hend':=hid (fun W hW=>(show Calls Tryz.prog 46 #[.pointer (some ⟨w.heap.size,0,none⟩)] W fun e w'=>e=.returned (.int .i64 0)∧Pure W w' from by have:=hend.out W hW;rw [if_pos rfl] at this;exact this))
   clear hend
   have hZ:Z=(max u v,0):=by rw [hA.out,if_neg (by rintro (h|h);exact hv h;exact h rfl)]
   subst hZ
   clear hv
   go_enter Tryz.func14,Tryz.ntmps14
   go_wp2_with (first
    | (go_at_call 44;refine hmr.out.mono ?_;rintro e w1 ⟨rfl,hr1,hp1⟩;have Hr1:=hid hr1;have Hp1:=hid hp1;clear hr1 hp1)
    | (go_at_call 45;refine (hrd'.out _ Hr1.out).mono ?_;rintro e w2 ⟨p,q,rfl,hc⟩;have HC:=hid hc;have HK:=qh (Kept (fun k=>k=n) w w2) (Kept.then_ (T:=fun k=>k=w.heap.size) Hp1.out.kept hc.k (fun k hk e=>by subst e;exact absurd hk oe));have HS:=hid ((H.out.pure Hp1.out).kept hc.k (by have:=hlt.out;omega));clear hc)
    | (go_at_call 46;refine (hend'.out _ HC.out.r).mono ?_;rintro e w3 ⟨rfl,hp3⟩;have HP3:=hid hp3;obtain ⟨c0,c1,f0,f1⟩:=(HS.out.pure hp3).cells;clear hp3)
    | (go_at_call 88;refine (sclos_res n p q v a _ r _ (HS.out.pure HP3.out) ((HP3.out.block _ (lob HC.out.p)).trans HC.out.p) ((HP3.out.block _ (lob HC.out.q)).trans HC.out.q)).mono ?_;rintro e w5 ⟨rfl,hs5,hk5⟩;have HS5:=hid hs5;have HK5:=hid hk5;clear hs5 hk5))
   go_ret
   exact ⟨rfl,HS5.out,(HK.out.trans HP3.out.kept).trans HK5.out⟩
  ·have hend':=hid (fun W hW=>(show Calls Tryz.prog 46 #[.pointer (some ⟨w.heap.size,0,none⟩)] W fun e w'=>e=.returned (.int .i64 10)∧Pure W w' from by have:=hend.out W hW;rw [if_neg hs] at this;exact this))
   have hZ:Z=(u,10):=by rw [hA.out,if_pos (.inr hs)]
   subst hZ
   clear hend hs hv
   go_enter Tryz.func14,Tryz.ntmps14
   go_wp2_with (first
    | (go_at_call 44;refine hmr.out.mono ?_;rintro e w1 ⟨rfl,hr1,hp1⟩;have Hr1:=hid hr1;have Hp1:=hid hp1;clear hr1 hp1)
    | (go_at_call 45;refine (hrd'.out _ Hr1.out).mono ?_;rintro e w2 ⟨p,q,rfl,hc⟩;have HC:=hid hc;have HK:=qh (Kept (fun k=>k=n) w w2) (Kept.then_ (T:=fun k=>k=w.heap.size) Hp1.out.kept hc.k (fun k hk e=>by subst e;exact absurd hk oe));have HS:=hid ((H.out.pure Hp1.out).kept hc.k (by have:=hlt.out;omega));clear hc)
    | (go_at_call 46;refine (hend'.out _ HC.out.r).mono ?_;rintro e w3 ⟨rfl,hp3⟩;have HP3:=hid hp3;obtain ⟨c0,c1,f0,f1⟩:=(HS.out.pure hp3).cells;clear hp3))
   go_ret
   exact ⟨rfl,HS.out.pure HP3.out,HK.out.trans HP3.out.kept⟩
end
section
set_option maxHeartbeats 2000000
set_option maxRecDepth 8000
open Go.RowKit Go.Maps
theorem ap7:apI 0 (num 7)=(7,0):=by decide +kernel
theorem ap8:apI 7 (num 8)=(7,13):=by decide +kernel
theorem ap9:apR 0 (num 9)=(9,0):=by decide +kernel
theorem ap5:apR 9 (num 5)=(9,0):=by decide +kernel
theorem kw {n:Nat} {w0 w w' : World} (hw:Pure w0 w) (hn:w0.heap.size≤n) (h:Kept (fun k=>k=n) w w'):Pure w0 w' :=
 (Kept.trans (Pure.kept (S:=fun k=>w0.heap.size≤k) hw) (h.mono (fun k _ e=>(show w0.heap.size≤k by omega)))).below (Nat.le_refl _) (fun k hk e=>by omega)
theorem awake19_any (w:World):Calls Tryz.prog 11 #[] w fun e w'=>e=.returned (.bool true)∧Pure w w':=by
 have hnew:=hid (snew_any w)
 generalize List.replicate 51 (Value.slice none 0 0)=r at *
 have hb7:=hid (fun W=>(show Calls Tryz.prog 19 #[.int .i64 7] W fun e w'=>e=.returned (.string (bs (73::num 7)))∧Pure W w' from sborn_any 7 W qd qd))
 have hb8:=hid (fun W=>(show Calls Tryz.prog 19 #[.int .i64 8] W fun e w'=>e=.returned (.string (bs (73::num 8)))∧Pure W w' from sborn_any 8 W qd qd))
 have hr9:=hid (fun W=>(show Calls Tryz.prog 21 #[.int .i64 9] W fun e w'=>e=.returned (.string (bs (82::num 9)))∧Pure W w' from sreserve_any 9 W qd qd))
 have hr5:=hid (fun W=>(show Calls Tryz.prog 21 #[.int .i64 5] W fun e w'=>e=.returned (.string (bs (82::num 5)))∧Pure W w' from sreserve_any 5 W qd qd))
 have ha7:=hid (fun W n (h:SAt n 0 0 r W)=>(show Calls Tryz.prog 14 #[.pointer (some ⟨n,0,none⟩),.string (bs (73::num 7))] W fun e w'=>e=.returned (.int .i64 0)∧SAt n 7 0 r w'∧Kept (fun k=>k=n) W w' from by have:=sapply_born n 0 0 r (num 7) W h qd qd;rw [ap7] at this;exact this))
 have ha8:=hid (fun W n (h:SAt n 7 0 r W)=>(show Calls Tryz.prog 14 #[.pointer (some ⟨n,0,none⟩),.string (bs (73::num 8))] W fun e w'=>e=.returned (.int .i64 13)∧SAt n 7 0 r w'∧Kept (fun k=>k=n) W w' from by have:=sapply_born n 7 0 r (num 8) W h qd qd;rw [ap8] at this;exact this))
 have ha9:=hid (fun W n (h:SAt n 7 0 r W)=>(show Calls Tryz.prog 14 #[.pointer (some ⟨n,0,none⟩),.string (bs (82::num 9))] W fun e w'=>e=.returned (.int .i64 0)∧SAt n 7 9 r w'∧Kept (fun k=>k=n) W w' from by have:=sapply_res n 7 0 r (num 9) W h;rw [ap9] at this;exact this))
 have ha5:=hid (fun W n (h:SAt n 7 9 r W)=>(show Calls Tryz.prog 14 #[.pointer (some ⟨n,0,none⟩),.string (bs (82::num 5))] W fun e w'=>e=.returned (.int .i64 0)∧SAt n 7 9 r w'∧Kept (fun k=>k=n) W w' from by have:=sapply_res n 7 9 r (num 5) W h;rw [ap5] at this;exact this))
 have hup:=hid (fun W n (h:SAt n 7 9 r W)=>supto_any n 7 9 r W h)
 have hid7:=hid (fun W n (h:SAt n 7 9 r W)=>sid_any n 7 9 r W h)
 go_enter Tryz.func11,Tryz.ntmps11
 go_wp2_with fail
 refine hnew.out.mono ?_
 rintro e w1 ⟨rfl,hs,hp⟩
 obtain ⟨n,hn⟩:=qe (w.heap.size)
 rw [←hn] at hs ⊢
 have HN:=hid hn
 have HS:=hid hs
 have HP:=hid hp
 clear hs hp hn hnew
 generalize num 7=l7 at *
 generalize num 8=l8 at *
 generalize num 9=l9 at *
 generalize num 5=l5 at *
 go_wp2_with fail
 refine (hb7.out _).mono ?_
 rintro e w2 ⟨rfl,hp2⟩
 have HP2:=hid hp2
 clear hp2
 go_wp2_with fail
 refine (ha7.out w2 n (HS.out.pure HP2.out)).mono ?_
 rintro e w3 ⟨rfl,hs3,hk3⟩
 have HS3:=hid hs3
 have HP3:=hid (kw (HP.out.then_ HP2.out) (Nat.le_of_eq HN.out.symm) hk3)
 clear hs3 hk3 HP HP2 HS
 go_wp2_with fail
 refine (hb8.out _).mono ?_
 rintro e w4 ⟨rfl,hp4⟩
 have HP4:=hid hp4
 clear hp4
 go_wp2_with fail
 refine (ha8.out w4 n (HS3.out.pure HP4.out)).mono ?_
 rintro e w5 ⟨rfl,hs5,hk5⟩
 have HS5:=hid hs5
 have HP5:=hid (kw (HP3.out.then_ HP4.out) (Nat.le_of_eq HN.out.symm) hk5)
 clear hs5 hk5 HP3 HP4 HS3
 go_wp2_with fail
 refine (hr9.out _).mono ?_
 rintro e w6 ⟨rfl,hp6⟩
 have HP6:=hid hp6
 clear hp6
 go_wp2_with fail
 refine (ha9.out w6 n (HS5.out.pure HP6.out)).mono ?_
 rintro e w7 ⟨rfl,hs7,hk7⟩
 have HS7:=hid hs7
 have HP7:=hid (kw (HP5.out.then_ HP6.out) (Nat.le_of_eq HN.out.symm) hk7)
 clear hs7 hk7 HP5 HP6 HS5
 go_wp2_with fail
 refine (hr5.out _).mono ?_
 rintro e w8 ⟨rfl,hp8⟩
 have HP8:=hid hp8
 clear hp8
 go_wp2_with fail
 refine (ha5.out w8 n (HS7.out.pure HP8.out)).mono ?_
 rintro e w9 ⟨rfl,hs9,hk9⟩
 have HS9:=hid hs9
 have HP9:=hid (kw (HP7.out.then_ HP8.out) (Nat.le_of_eq HN.out.symm) hk9)
 clear hs9 hk9 HP7 HP8 HS7
 go_wp2_with (first
  | (go_at_call 36;refine (hup.out w9 n HS9.out).mono ?_;rintro e w10 ⟨rfl,hp10⟩;have HP10:=hid hp10;have HS10:=hid (HS9.out.pure hp10);clear hp10)
  | (go_at_call 35;refine (hid7.out w10 n HS10.out).mono ?_;rintro e w11 ⟨rfl,hp11⟩;have HP11:=hid hp11;clear hp11))
 go_ret
 exact ⟨rfl,HP9.out.then_ (HP10.out.then_ HP11.out)⟩
end
end Go.Proofs.YtdlpnhfgjficgaaGreat
