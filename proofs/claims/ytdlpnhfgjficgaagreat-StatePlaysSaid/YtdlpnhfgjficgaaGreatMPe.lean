import Derived.Sort.Walk0
import Derived.Shelf.Abstract
import Derived.Laws.OwnMore
import Derived.Test.YtdlpnhfgjficgaaGreatMCtx
namespace Go.Proofs.YtdlpnhfgjficgaaGreat
section
set_option maxHeartbeats 400000
open Go.RowKit Go.Maps
structure Pr where
 id:Int
 inc:Int
 st:Int
 deriving DecidableEq
def p0:Pr:=⟨0,0,0⟩
def pcells (p:Pr):List Value:=[.int .i64 p.id,.int .i64 p.inc,.int .i64 p.st]
def pvs (l:List Pr):List Value:=l.flatMap pcells
def pv (p:Pr):Value:=.agg #[.int .i64 p.id,.int .i64 p.inc,.int .i64 p.st]
def Peers (w:World) (v:Value) (l:List Pr):Prop:=Row w v l.length 3 (pvs l)
theorem pvs_len (l:List Pr):(pvs l).length=l.length*3:=by
 induction l with
 | nil=>rfl
 | cons d l ih=>simp [pvs,pcells] at *;omega
theorem pvs_append (l k:List Pr):pvs (l++k)=pvs l++pvs k:=by simp [pvs]
theorem pvs_get:∀(l:List Pr) (k:Nat),k<l.length→∀j,j<3→(pvs l)[k*3+j]?=(pcells (l.getD k p0))[j]?
 | [],k,h,_,_=>absurd h (Nat.not_lt_zero _)
 | d::l,0,_,j,hj=>by
   have e:pvs (d::l)=pcells d++pvs l:=rfl
   rw [e,List.getElem?_append_left (by simp [pcells];omega)]
   simp [List.getD]
 | d::l,k+1,h,j,hj=>by
   have ih:=pvs_get l k (by simpa using h) j hj
   have e:pvs (d::l)=pcells d++pvs l:=rfl
   have hl:(pcells d).length=3:=rfl
   rw [e,List.getElem?_append_right (by rw [hl];omega),hl,show (k+1)*3+j-3=k*3+j by omega,ih]
   simp [List.getD]
theorem pvs_one (l:List Pr):∀u ∈ pvs l,u.oneCell'=true:=by
 intro u hu
 simp only [pvs,List.mem_flatMap,pcells] at hu
 obtain ⟨d,_,hd⟩:=hu
 simp at hd
 rcases hd with rfl|rfl|rfl <;> rfl
theorem Peers.shape {w:World} {v:Value} {l:List Pr} (h:Peers w v l):∃a cap,v=.slice a l.length cap:=Row.shape h
theorem Peers.get {w:World} {a:Option Addr} {n cap:Nat} {l:List Pr} (h:Peers w (.slice a n cap) l) {k:Nat} (hk:k<l.length) :
 ∃b off,a=some ⟨b,off,none⟩∧b<w.heap.size∧w.cell? ⟨b,off+k*3,none⟩=some (.int .i64 (l.getD k p0).id)∧w.cell? ⟨b,off+k*3+1,none⟩=some (.int .i64 (l.getD k p0).inc)∧w.cell? ⟨b,off+k*3+2,none⟩=some (.int .i64 (l.getD k p0).st):=by
 have e:n=l.length:=by obtain ⟨a',c',e⟩:=h.shape;injection e
 subst e
 obtain ⟨b,off,e,hb,hc⟩:=Row.elem h hk
 have g:=pvs_get l k hk
 exact ⟨b,off,e,hb,(hc 0 oe).trans (g 0 oe),(hc 1 oe).trans (g 1 oe),(hc 2 oe).trans (g 2 oe)⟩
theorem take_succ_p (l:List Pr) (k:Nat) (h:k<l.length):l.take (k+1)=l.take k++[l.getD k p0]:=by
 rw [List.take_succ_eq_append_getElem h];simp [List.getD,h]
theorem mem_get_p {l:List Pr} {k:Nat} (h:k<l.length):l.getD k p0 ∈ l:=by simp [List.getD,h]
theorem infoPeer:(Tryz.prog.info? 92).map (fun i=>(i.zero,i.size,i.bytes))=some (some (.agg #[.int .i64 0,.int .i64 0,.int .i64 0]),3,24):=by kernel_rfl
theorem clonep_any (v:Value) (l:List Pr) (w:World) (hr:Peers w v l) (hl:l.length≤1000000) :
 Calls Tryz.prog 84 #[v] w fun e w'=>∃v',e=.returned v'∧w'.ownsRow w.heap.size 92 3 v' l.length (pvs l)∧Pure w w':=by
 obtain ⟨a,cap,rfl⟩:=hr.shape
 obtain ⟨i0,hi,hz0,hz1,hz2⟩:=ipt infoPeer
 cases a with
 | none =>
   have h0:l=[]:=by
    rcases Nat.eq_zero_or_pos l.length with h|h
    ·exact List.eq_nil_of_length_eq_zero h
    ·obtain ⟨_,_,e,_⟩:=hr.get h;cases e
   subst h0
   have he:=Lib.run_eql_slice_nil (P:=Tryz.prog) w 50 92 none 0 cap 0 0 Tryz.underlying50
   simp only [Option.isNone_none] at he
   go_enter Tryz.func84,Tryz.ntmps84
   go_wp2
   go_ret
   exact ⟨_,rfl,World.ownsRow_nil _ _ _ _,Below.refl _ _⟩
 | some x =>
   have he:=Lib.run_eql_slice_nil (P:=Tryz.prog) w 50 92 (some x) l.length cap 0 0 Tryz.underlying50
   simp only [Option.isNone_some] at he
   have Hr:=qh (Peers (w.alloc (.cells #[] 92)) (.slice (some x) l.length cap) l) (Row.pure hr qp)
   clear hr
   go_enter Tryz.func84,Tryz.ntmps84
   go_wp2_with (at_builtin;refine wlar rfl _ _ 50 rfl w.heap.size 92 i0 (.agg #[.int .i64 0,.int .i64 0,.int .i64 0]) 3 24 Tryz.underlying50 hi hz0 hz1 hz2 rfl qd qd _ 0 [] rfl (World.ownsRow_made w #[] 0 (Nat.le_refl _) (Nat.zero_le _) rfl) _ l.length (pvs l) rfl Hr.out (pvs_one l) oe qb ?_)
   intro v' w2 hown2 hg2
   have hown3:w2.ownsRow w.heap.size 92 3 v' l.length (pvs l):=by simpa using hown2
   go_wp2
   go_ret
   exact ⟨_,rfl,hown3,qp.grown hg2 qb (fun j hj=>by simp [Value.ownBlock] at hj;omega)⟩
def mem (l:List Pr):List Int:=(l.filter fun p=>decide (p.st≠2)).map (·.id)
end
section
open Go.RowKit Go.Maps
theorem own_shape_p {w:World} {base e size:Nat} {v:Value} {n:Nat} {xs:List Value} (h:w.ownsRow base e size v n xs):∃a cap,v=.slice a n cap:=(Row.of_own h).shape
end
section
set_option maxHeartbeats 1000000
open Go.RowKit Go.Maps
theorem few_small (v:Value) (l:List Pr) (w:World) (hr:Peers w v l) (hl:l.length≤64):Calls Tryz.prog 121 #[v] w fun e w'=>e=.returned v∧w=w':=by
 obtain ⟨a,cap,rfl⟩:=hr.shape
 have h:¬(64:Int)<(l.length:Int):=by omega
 clear hr
 go_enter Tryz.func121,Tryz.ntmps121
 go_wp2
 go_ret
 exact ⟨rfl,rfl⟩
def later (a b:Pr):Pr:=if a.st=2 then (if b.st=2 then (if b.inc<a.inc∨a.inc=b.inc∧b.st≤a.st then a else b) else a) else (if b.st=2 then b else (if b.inc<a.inc∨a.inc=b.inc∧b.st≤a.st then a else b))
theorem pure3 (w:World) (a b c:Obj):Pure w (((w.alloc a).alloc b).alloc c):=(qp.alloc qb _).alloc qc _
theorem later_any (a b:Pr) (w:World):Calls Tryz.prog 166 #[pv a,pv b] w fun e w'=>e=.returned (pv (later a b))∧Pure w w':=by
 obtain ⟨a1,a2,a3⟩:=a
 obtain ⟨b1,b2,b3⟩:=b
 unfold pv later
 dsimp only
 have hp:=hid (fun a b c=>pure3 w a b c)
 by_cases ha:a3=2
 ·have ha' : (a3 == 2)=true:=by simp [ha]
  by_cases hb:b3=2
  ·have hb' : (b3 == 2)=true:=by simp [hb]
   rw [if_pos ha,if_pos hb]
   by_cases h1:b2<a2
   ·rw [if_pos (.inl h1)]
    clear ha hb
    have h1' : decide (a2 > b2)=true:=by simpa using h1
    go_enter Tryz.func166,Tryz.ntmps166
    go_wp2
    exact bodyPost_ret (v:=.agg #[.int .i64 a1,.int .i64 a2,.int .i64 a3]) (by simp [results,Tryz.results166,go_sem]) rfl ⟨rfl,hp.out _ _ _⟩
   ·by_cases h2:a2=b2
    ·have h2' : (a2 == b2)=true:=by simpa using h2
     have h3:b3≤a3:=by omega
     rw [if_pos (.inr ⟨h2,h3⟩)]
     clear ha hb h2
     go_enter Tryz.func166,Tryz.ntmps166
     go_wp2
     exact bodyPost_ret (v:=.agg #[.int .i64 a1,.int .i64 a2,.int .i64 a3]) (by simp [results,Tryz.results166,go_sem]) rfl ⟨rfl,hp.out _ _ _⟩
    ·have h2' : (a2 == b2)=false:=by simpa using h2
     rw [if_neg (fun h=>h.elim h1 (fun h=>h2 h.1))]
     clear ha hb h2
     go_enter Tryz.func166,Tryz.ntmps166
     go_wp2
     exact bodyPost_ret (v:=.agg #[.int .i64 b1,.int .i64 b2,.int .i64 b3]) (by simp [results,Tryz.results166,go_sem]) rfl ⟨rfl,hp.out _ _ _⟩
  ·have hb' : (b3 == 2)=false:=by simp [hb]
   rw [if_pos ha,if_neg hb]
   clear ha hb
   go_enter Tryz.func166,Tryz.ntmps166
   go_wp2
   exact bodyPost_ret (v:=.agg #[.int .i64 a1,.int .i64 a2,.int .i64 a3]) (by simp [results,Tryz.results166,go_sem]) rfl ⟨rfl,hp.out _ _ _⟩
 ·have ha' : (a3 == 2)=false:=by simp [ha]
  by_cases hb:b3=2
  ·have hb' : (b3 == 2)=true:=by simp [hb]
   rw [if_neg ha,if_pos hb]
   clear ha hb
   go_enter Tryz.func166,Tryz.ntmps166
   go_wp2
   exact bodyPost_ret (v:=.agg #[.int .i64 b1,.int .i64 b2,.int .i64 b3]) (by simp [results,Tryz.results166,go_sem]) rfl ⟨rfl,hp.out _ _ _⟩
  ·have hb' : (b3 == 2)=false:=by simp [hb]
   rw [if_neg ha,if_neg hb]
   clear ha hb
   by_cases h1:b2<a2
   ·rw [if_pos (.inl h1)]
    go_enter Tryz.func166,Tryz.ntmps166
    go_wp2
    exact bodyPost_ret (v:=.agg #[.int .i64 a1,.int .i64 a2,.int .i64 a3]) (by simp [results,Tryz.results166,go_sem]) rfl ⟨rfl,hp.out _ _ _⟩
   ·by_cases h2:a2=b2
    ·have h2' : (a2 == b2)=true:=by simpa using h2
     by_cases h3:b3≤a3
     ·rw [if_pos (.inr ⟨h2,h3⟩)]
      clear h2
      go_enter Tryz.func166,Tryz.ntmps166
      go_wp2
      exact bodyPost_ret (v:=.agg #[.int .i64 a1,.int .i64 a2,.int .i64 a3]) (by simp [results,Tryz.results166,go_sem]) rfl ⟨rfl,hp.out _ _ _⟩
     ·rw [if_neg (fun h=>h.elim h1 (fun h=>h3 h.2))]
      clear h2
      go_enter Tryz.func166,Tryz.ntmps166
      go_wp2
      exact bodyPost_ret (v:=.agg #[.int .i64 b1,.int .i64 b2,.int .i64 b3]) (by simp [results,Tryz.results166,go_sem]) rfl ⟨rfl,hp.out _ _ _⟩
    ·have h2' : (a2 == b2)=false:=by simpa using h2
     rw [if_neg (fun h=>h.elim h1 (fun h=>h2 h.1))]
     clear h2
     go_enter Tryz.func166,Tryz.ntmps166
     go_wp2
     exact bodyPost_ret (v:=.agg #[.int .i64 b1,.int .i64 b2,.int .i64 b3]) (by simp [results,Tryz.results166,go_sem]) rfl ⟨rfl,hp.out _ _ _⟩
end
section
set_option maxHeartbeats 4000000
set_option maxRecDepth 8000
open Go.RowKit Go.Maps
def pstep (p:Pr) (s:List Pr × Bool) (q:Pr):List Pr × Bool:=if q.id=p.id then (s.1++[later q p],true) else if s.2=false∧p.id<q.id then (s.1++[p,q],true) else (s.1++[q],s.2)
def pfold (l:List Pr) (p:Pr):List Pr × Bool:=l.foldl (pstep p) ([],false)
def pput (l:List Pr) (p:Pr):List Pr:=if (pfold l p).2 then (pfold l p).1 else (pfold l p).1++[p]
theorem pfold_take {l:List Pr} {p:Pr} {k:Nat} (h:k<l.length):pfold (l.take (k+1)) p=pstep p (pfold (l.take k) p) (l.getD k p0):=by
 rw [take_succ_p l k h];unfold pfold;rw [List.foldl_append];rfl
theorem pstep_len (p:Pr) (s:List Pr × Bool) (q:Pr):(pstep p s q).1.length≤s.1.length+2:=by
 unfold pstep;split
 ·simp
 ·split <;> simp
theorem pfold_len (p:Pr):∀(l:List Pr) (s:List Pr × Bool),(l.foldl (pstep p) s).1.length≤s.1.length+2*l.length
 | [],_=>by simp
 | q::l,s=>by
   have h1:=pfold_len p l (pstep p s q)
   have h2:=pstep_len p s q
   simp only [List.foldl_cons,List.length_cons];omega
theorem pfold_len' (l:List Pr) (p:Pr):(pfold l p).1.length≤2*l.length:=by have:=pfold_len p l ([],false);simpa [pfold] using this
theorem peer_lit (w:World) (p:Pr):∀j u,(pcells p)[j]?=some u→(w.alloc (.cells #[.int .i64 p.id,.int .i64 p.inc,.int .i64 p.st] 92)).cell? ((⟨w.heap.size,0,none⟩ : Addr).add j)=some u:=by
 intro j u hj
 rw [Addr.add_lit,Nat.zero_add,World.cell?_alloc_new]
 simpa [pcells] using hj
theorem peer_row (w:World) (p:Pr):Row (w.alloc (.cells #[.int .i64 p.id,.int .i64 p.inc,.int .i64 p.st] 92)) (.slice (some ⟨w.heap.size,0,none⟩) 1 1) 1 3 (pcells p):=by
 refine ⟨rfl,_,_,rfl,Nat.le_refl _,by unfold maxLen;omega,.inr ⟨_,_,rfl,by simp,fun i hi=>?_⟩⟩
 rw [Nat.zero_add,World.cell?_alloc_new]
 simp [pcells]
theorem pcells_one (p:Pr):∀u ∈ pcells p,u.oneCell'=true:=by
 intro u hu
 simp [pcells] at hu
 rcases hu with rfl|rfl|rfl <;> rfl
theorem pvs_snoc (l:List Pr) (p:Pr):pvs (l++[p])=pvs l++pcells p:=by rw [pvs_append];simp [pvs]
def VPutP (w:World) (l:List Pr) (e:Ending) (w' : World):Prop:=∃v',e=.returned v'∧w'.ownsRow w.heap.size 92 3 v' l.length (pvs l)∧Pure w w'
theorem rvput_any (v:Value) (l:List Pr) (p:Pr) (w:World) (hr:Peers w v l) (hl:l.length≤100000) :
 Calls Tryz.prog 120 #[v,pv p] w (VPutP w (pput l p)):=by
 obtain ⟨a,cap,rfl⟩:=hr.shape
 obtain ⟨i0,hi,hz0,hz1,hz2⟩:=ipt infoPeer
 have hlt1:=hid (fun z W=>later_any z p W)
 have Hput:=qh (pput l p=if (pfold l p).2 then (pfold l p).1 else (pfold l p).1++[p]) (rfl)
 have Htake:=hid (fun k (h:k<l.length)=>pfold_take (p:=p) h)
 have Hlen:=hid (fun k=>pfold_len' (l.take k) p)
 have Hrow:=hid (fun w=>peer_row w p)
 have Hpc:=hid (pcells_one p)
 obtain ⟨wz,hwz⟩:=qe (w.alloc (.cells #[.int .i64 p.id,.int .i64 p.inc,.int .i64 p.st] 92))
 have Hpz:=qh (Pure w wz) (by rw [hwz];exact qp)
 have hblk:wz.heap[w.heap.size]?=some (.cells #[.int .i64 p.id,.int .i64 p.inc,.int .i64 p.st] 92 (0,0)):=by rw [hwz];exact ban _ _
 have Hblk:=hid (fun W (hW:Pure wz W)=>(hW.block _ (lob hblk)).trans hblk)
 have Hr:=hid (fun W (hW:Pure wz W)=>(show Peers W (.slice a l.length cap) l from Row.pure (Row.pure hr Hpz.out) hW))
 have Hz:=hid hwz
 clear hr hblk hwz
 obtain ⟨px,hpx⟩ : ∃px,px=p:=⟨p,rfl⟩
 have Hpx:=hid hpx
 clear hpx
 obtain ⟨pi,pn,ps⟩:=p
 dsimp only at Hz Hblk Hrow
 unfold pv at hlt1 ⊢
 go_enter Tryz.func120,Tryz.ntmps120
 go_wp2
 rw [←Hz.out]
 go_loopw [5,6,7] (fun o d i wr=>∃(k:Nat) (Y:List Pr) (D:Bool),k≤l.length∧i=.int .i64 k∧pfold (l.take k) ⟨pi,pn,ps⟩=(Y,D)∧d=.bool D∧wr.ownsRow wz.heap.size 92 3 o Y.length (pvs Y)∧Pure wz wr) (fun _ _ i _=>l.length-(RowKit.intOf i).toNat)
 case atStart=>exact ⟨0,[],false,Nat.zero_le _,rfl,rfl,rfl,World.ownsRow_nil _ _ _ _,Below.refl _ _⟩
 case round =>
  obtain ⟨k,Y,D,hk,rfl,hY,rfl,hown,hp⟩:=hrel
  have hYl:=Hlen.out k
  rw [hY] at hYl
  have hYl:Y.length≤200000:=by have:=List.length_take_le k l;dsimp only at hYl;omega
  obtain ⟨a3,c3,rfl⟩:=own_shape_p hown
  by_cases hlt:k<l.length
  ·have hlt' : (k:Int)<(l.length:Int):=by omega
   have hkk:(0:Int)≤(k:Int):=by omega
   have Hst:=Htake.out k hlt
   rw [hY] at Hst
   unfold pstep at Hst
   obtain ⟨b,off,rfl,-⟩:=(Hr.out wr hp).get hlt
   have Hc:=hid (fun W (hW:Pure wz W)=>(show W.cell? ⟨b,off+k*3,none⟩=some (.int .i64 (l.getD k p0).id)∧W.cell? ⟨b,off+k*3+1,none⟩=some (.int .i64 (l.getD k p0).inc)∧W.cell? ⟨b,off+k*3+2,none⟩=some (.int .i64 (l.getD k p0).st)∧W.cell? ⟨w.heap.size,0,none⟩=some (.int .i64 pi)∧W.cell? ⟨w.heap.size,1,none⟩=some (.int .i64 pn)∧W.cell? ⟨w.heap.size,2,none⟩=some (.int .i64 ps) from by
    obtain ⟨b',off',e,_,c0,c1,c2⟩:=(Hr.out W hW).get hlt
    cases e
    exact ⟨c0,c1,c2,cob (Hblk.out W hW) 0,cob (Hblk.out W hW) 1,cob (Hblk.out W hW) 2⟩))
   have HLt:=hid (hlt1.out (l.getD k p0))
   generalize l.getD k p0=z at *
   obtain ⟨zi,zn,zs⟩:=z
   have HSt:=hid Hst
   have Hown:=hid (fun W (hW:Pure wr W)=>own_pure hown hW)
   have Hp:=hid hp
   clear Hst hown hp hY
   dsimp only at HSt Hc HLt
   obtain ⟨c0,c1,c2,x0,x1,x2⟩:=Hc.out wr Hp.out
   by_cases he:zi=pi
   ·subst he
    have hSt2:=HSt.out
    rw [if_pos rfl] at hSt2
    generalize later ⟨zi,zn,zs⟩ ⟨zi,pn,ps⟩=y at *
    have HS2:=hid hSt2
    obtain ⟨yi,yn,ys⟩:=y
    clear hSt2 HSt
    go_wp2_with fail
    go_quiet (fail)
    go_wp2_with fail
    go_region_law (first
     | (go_simp;go_at_call 166;(with_reducible refine (HLt.out _).mono ?_);rintro e w4 ⟨rfl,hp4⟩;have hq4:=hid (Pure.then_ (pdN wr _) hp4))
     | (refine step_append_own rfl (.tmp 22) (.tmp 29) 50 rfl wz.heap.size 92 i0 (.agg #[.int .i64 0,.int .i64 0,.int .i64 0]) 3 24 Tryz.underlying50 hi hz0 hz1 hz2 rfl qd (.slice a3 Y.length c3) Y.length (pvs Y) (by simp [Act.eval]) (World.ownsRow.alloc (Hown.out w4 hq4.out) _) ⟨w4.heap.size,0,none⟩ 1 1 (pcells ⟨yi,yn,ys⟩) (by simp [Act.eval]) rfl (peer_lit w4 ⟨yi,yn,ys⟩) (pcells_one _) (by unfold maxLen;omega) oe (by have:=Hp.out.size;have:=hq4.out.size;simp;omega) ?_;intro v' w' hown' hg';obtain ⟨a9,c9,rfl⟩:=own_shape_p hown';have Hown9:=hid hown';have Hp9:=hid (((Hp.out.then_ hq4.out).alloc (by have:=Hp.out.size;have:=hq4.out.size;omega) (.cells #[.int .i64 yi,.int .i64 yn,.int .i64 ys] 92)).grown hg' (by have:=Hp.out.size;have:=hq4.out.size;simp;omega) (fun k hk=>((Hown.out w4 hq4.out).lt k hk).1));clear hown' hg'))
    all_goals
     go_wp2
     go_roundw
     (case rel=>exact ⟨k+1,Y++[⟨yi,yn,ys⟩],true,by omega,by go_num,HS2.out,rfl,by rw [pvs_snoc,List.length_append];exact Hown9.out,Hp9.out⟩)
     (case measure=>simp [RowKit.intOf];omega)
   ·have he' : (zi == pi)=false:=by simpa using he
    have hSt2:=HSt.out
    rw [if_neg he] at hSt2
    clear HSt
    by_cases hD:D=false∧pi<zi
    ·obtain ⟨rfl,hgt⟩:=hD
     rw [if_pos ⟨rfl,hgt⟩] at hSt2
     have HS2:=hid hSt2
     have hgt' : zi > pi:=hgt
     clear hSt2 he
     go_wp2_with fail
     go_quiet (fail)
     go_wp2_with fail
     go_quiet (fail)
     go_wp2_with (at_builtin;refine wlar rfl _ _ 50 rfl wz.heap.size 92 i0 (.agg #[.int .i64 0,.int .i64 0,.int .i64 0]) 3 24 Tryz.underlying50 hi hz0 hz1 hz2 rfl qd qd _ Y.length (pvs Y) rfl ((Hown.out _ (pdN _ _)).alloc _) _ 1 (pcells ⟨pi,pn,ps⟩) rfl (Hrow.out _) (pcells_one _) qc (by have:=Hp.out.size;simp;omega) ?_)
     intro v5 w5 hown5 hg5
     have Hp5:=hid (((Hp.out.then_ (pdN _ _)).alloc (by have:=Hp.out.size;simp;omega) _).grown hg5 (by have:=Hp.out.size;simp;omega) (fun k hk=>((Hown.out wr (Below.refl _ _)).lt k hk).1))
     rw [←pvs_snoc,show Y.length+1=(Y++[(⟨pi,pn,ps⟩ : Pr)]).length by simp] at hown5
     have Hown5:=hid (fun W (hW:Pure w5 W)=>own_pure hown5 hW)
     obtain ⟨a5,c5,rfl⟩:=own_shape_p hown5
     clear hown5 hg5 c0 c1 c2 x0 x1 x2
     obtain ⟨c0,c1,c2,-,-,-⟩:=Hc.out w5 Hp5.out
     go_wp2_with (at_builtin;go_loud (refine wlar rfl _ _ 50 rfl wz.heap.size 92 i0 (.agg #[.int .i64 0,.int .i64 0,.int .i64 0]) 3 24 Tryz.underlying50 hi hz0 hz1 hz2 rfl qd qd (.slice a5 (Y++[(⟨pi,pn,ps⟩ : Pr)]).length c5) (Y++[(⟨pi,pn,ps⟩ : Pr)]).length (pvs (Y++[⟨pi,pn,ps⟩])) (by first|rfl|simp) ((Hown5.out _ (Below.refl _ _)).alloc _) _ 1 (pcells ⟨zi,zn,zs⟩) rfl (peer_row w5 ⟨zi,zn,zs⟩) (pcells_one _) qc (by have:=Hp5.out.size;simp;omega) ?_))
     intro v6 w6 hown6 hg6
     have Hp6:=hid ((Hp5.out.alloc (by have:=Hp5.out.size;omega) _).grown hg6 (by have:=Hp5.out.size;simp;omega) (fun k hk=>((Hown5.out _ (Below.refl _ _)).lt k (by simpa using hk)).1))
     have Hown6:=hid hown6
     clear hown6 hg6
     go_wp2
     go_roundw
     case rel=>exact ⟨k+1,Y++[⟨pi,pn,ps⟩]++[⟨zi,zn,zs⟩],true,by omega,by go_num,by rw [HS2.out];simp,rfl,by rw [pvs_snoc,List.length_append,List.length_append];exact Hown6.out,Hp6.out⟩
     case measure=>simp [RowKit.intOf];omega
    ·rw [if_neg hD] at hSt2
     have HS2:=hid hSt2
     clear hSt2 he
     cases D with
     | true =>
       clear hD
       go_wp2_with fail
       go_quiet (fail)
       go_wp2_with fail
       go_quiet (fail)
       go_wp2_with (at_builtin;refine wlar rfl _ _ 50 rfl wz.heap.size 92 i0 (.agg #[.int .i64 0,.int .i64 0,.int .i64 0]) 3 24 Tryz.underlying50 hi hz0 hz1 hz2 rfl qd qd _ Y.length (pvs Y) rfl ((Hown.out _ (pdN _ _)).alloc _) _ 1 (pcells ⟨zi,zn,zs⟩) rfl (peer_row _ ⟨zi,zn,zs⟩) (pcells_one _) qc (by have:=Hp.out.size;simp;omega) ?_)
       intro v6 w6 hown6 hg6
       have Hp6:=hid (((Hp.out.then_ (pdN _ _)).alloc (by have:=Hp.out.size;simp;omega) _).grown hg6 (by have:=Hp.out.size;simp;omega) (fun k hk=>((Hown.out wr (Below.refl _ _)).lt k hk).1))
       have Hown6:=hid hown6
       clear hown6 hg6
       go_wp2
       go_roundw
       case rel=>exact ⟨k+1,Y++[⟨zi,zn,zs⟩],_,by omega,by go_num,HS2.out,rfl,by rw [pvs_snoc,List.length_append];exact Hown6.out,Hp6.out⟩
       case measure=>simp [RowKit.intOf];omega
     | false =>
       have hgt' : decide (zi > pi)=false:=by simpa using hD
       clear hD
       go_wp2_with fail
       go_quiet (fail)
       go_wp2_with fail
       go_quiet (fail)
       go_wp2_with (at_builtin;refine wlar rfl _ _ 50 rfl wz.heap.size 92 i0 (.agg #[.int .i64 0,.int .i64 0,.int .i64 0]) 3 24 Tryz.underlying50 hi hz0 hz1 hz2 rfl qd qd _ Y.length (pvs Y) rfl ((Hown.out _ (pdN _ _)).alloc _) _ 1 (pcells ⟨zi,zn,zs⟩) rfl (peer_row _ ⟨zi,zn,zs⟩) (pcells_one _) qc (by have:=Hp.out.size;simp;omega) ?_)
       intro v6 w6 hown6 hg6
       have Hp6:=hid (((Hp.out.then_ (pdN _ _)).alloc (by have:=Hp.out.size;simp;omega) _).grown hg6 (by have:=Hp.out.size;simp;omega) (fun k hk=>((Hown.out wr (Below.refl _ _)).lt k hk).1))
       have Hown6:=hid hown6
       clear hown6 hg6
       go_wp2
       go_roundw
       case rel=>exact ⟨k+1,Y++[⟨zi,zn,zs⟩],_,by omega,by go_num,HS2.out,rfl,by rw [pvs_snoc,List.length_append];exact Hown6.out,Hp6.out⟩
       case measure=>simp [RowKit.intOf];omega
  ·have hlt' : ¬(k:Int)<(l.length:Int):=by omega
   rw [List.take_of_length_le oe] at hY
   have hPut:=Hput.out
   rw [hY] at hPut
   have Hown:=hid (fun W (hW:Pure wr W)=>own_pure hown hW)
   have Hp:=hid hp
   have hwz:=Hpz.out.size
   cases D with
   | true =>
     have HPut:=qh (pput l ⟨pi,pn,ps⟩=Y) (hPut)
     clear hown hp hY hPut
     go_wp2
     go_ret
     exact ⟨_,rfl,by rw [HPut.out];exact own_mono (Hown.out _ (Below.refl _ _)) hwz,Hpz.out.then_ Hp.out⟩
   | false =>
     have HPut:=qh (pput l ⟨pi,pn,ps⟩=Y++[⟨pi,pn,ps⟩]) (hPut)
     clear hown hp hY hPut
     have x0:wr.cell? ⟨w.heap.size,0,none⟩=some (.int .i64 pi):=cob (Hblk.out wr Hp.out) 0
     have x1:wr.cell? ⟨w.heap.size,1,none⟩=some (.int .i64 pn):=cob (Hblk.out wr Hp.out) 1
     have x2:wr.cell? ⟨w.heap.size,2,none⟩=some (.int .i64 ps):=cob (Hblk.out wr Hp.out) 2
     go_wp2_with (at_builtin;refine wlar rfl _ _ 50 rfl wz.heap.size 92 i0 (.agg #[.int .i64 0,.int .i64 0,.int .i64 0]) 3 24 Tryz.underlying50 hi hz0 hz1 hz2 rfl qd qd _ Y.length (pvs Y) rfl ((Hown.out _ (Below.refl _ _)).alloc _) _ 1 (pcells ⟨pi,pn,ps⟩) rfl (Hrow.out _) (pcells_one _) qc (by have:=Hp.out.size;simp;omega) ?_)
     intro v6 w6 hown6 hg6
     have Hp6:=hid ((Hp.out.alloc (by have:=Hp.out.size;omega) _).grown hg6 (by have:=Hp.out.size;simp;omega) (fun k hk=>((Hown.out _ (Below.refl _ _)).lt k hk).1))
     have Hown6:=hid hown6
     obtain ⟨a6,c6,rfl⟩:=own_shape_p hown6
     clear hown6 hg6
     go_wp2
     go_ret
     exact ⟨_,rfl,by rw [HPut.out,pvs_snoc,List.length_append];exact own_mono Hown6.out hwz,Hpz.out.then_ Hp6.out⟩
end
end Go.Proofs.YtdlpnhfgjficgaaGreat
