import Derived.Test.YtdlpnhfgjficgaaGreatMVv
set_option maxHeartbeats 8000000
set_option maxRecDepth 8000
namespace Go.Proofs.YtdlpnhfgjficgaaGreat
open Go.RowKit Go.Maps Go.Shelf Go.Sort
theorem tkM {P:Program} {md:Region.Mode} {ops:Array Oper} {Q:Exit→Act→World→Prop} {S:World→Prop} {fuel:Nat} {listed:Array Bool} {a:Act} {w:World} (i:Nat) {rs:List Nat} {oi:Oper} {l' : Array Bool}
 (h:∀K:Act→World→Prop,Shut (∀a w,S w→(S w→wpAnyH P md ops Q S fuel l' a w)→K a w)→Oper.wp P oi a w K Q) (hr:AllReadyH P md ops Q S fuel listed a w rs)
 (hi:ops[i]?=some oi:=by rfl) (hl:listed.setIfInBounds i true=l':=by rfl) (hw:Region.wanted oi (yielded ops a.tmps)=true:=by rfl):AllReadyH P md ops Q S fuel listed a w (i::rs):=by
 subst hl
 exact AllReadyH.cons hi (fun K hK=>by rw [if_pos hw];exact h K hK) hr
theorem asG {P:Program} {md:Region.Mode} {ops:Array Oper} {Q:Exit→Act→World→Prop} {S:World→Prop} (n:Nat) (l:Array Bool) (a:Act) (w:World)
 (h:∀G:Nat→Array Bool→Act→World→Prop,(∀n l a w,G n l a w→wpAnyH P md ops Q S n l a w)→(∀n l a w,wpAnyH P md ops Q S n l a w→G n l a w)→G n l a w):wpAnyH P md ops Q S n l a w :=
 h _ (fun _ _ _ _ h=>h) (fun _ _ _ _ h=>h)
def agel (p:Pr):Int:=if p.st=2 then 1 else 0
theorem age_any (p:Pr) (w:World):Calls Tryz.prog 191 #[pv p] w fun e w'=>e=.returned (.agg #[.int .i64 (agel p),.int .i64 p.inc,.int .i64 p.st])∧Pure w w':=by
 obtain ⟨x,y,z⟩:=p
 have hp:=qh (∀a b,Pure w ((w.alloc a).alloc b)) (fun a b=>qp.alloc qb _)
 have hpz:=hid (fun (a b:Obj) (u v t:Value)=>(show Pure w (((((w.alloc a).alloc b).setCell ⟨w.heap.size+1,0,none⟩ u).setCell ⟨w.heap.size+1,1,none⟩ v).setCell ⟨w.heap.size+1,2,none⟩ t) from
  Below.setCell (Below.setCell (Below.setCell (hp.out a b) (by simp;try omega) _) (by simp;try omega) _) (by simp;try omega) _))
 unfold pv agel
 dsimp only
 by_cases hz:z=2
 ·have hz' : (z == 2)=true:=by simp [hz]
  rw [if_pos hz]
  clear hz
  go_enter Tryz.func191,Tryz.ntmps191
  go_wp2
  exact bodyPost_ret (v:=.agg #[.int .i64 1,.int .i64 y,.int .i64 z]) (by simp [results,Tryz.results191,go_sem]) rfl ⟨rfl,by first|exact hp.out _ _|exact hpz.out _ _ _ _ _⟩
 ·have hz' : (z == 2)=false:=by simp [hz]
  rw [if_neg hz]
  clear hz
  go_enter Tryz.func191,Tryz.ntmps191
  go_wp2
  exact bodyPost_ret (v:=.agg #[.int .i64 0,.int .i64 y,.int .i64 z]) (by simp [results,Tryz.results191,go_sem]) rfl ⟨rfl,by first|exact hp.out _ _|exact hpz.out _ _ _ _ _⟩
def c3 (x0 x1 x2 y0 y1 y2:Int):Int:=if Lib.compareInt x0 y0=0 then (if Lib.compareInt x1 y1=0 then Lib.compareInt x2 y2 else Lib.compareInt x1 y1) else Lib.compareInt x0 y0
def BA3 (n:Nat) (x y z:Int) (W:World):Prop:=W.heap[n]?=some (.cells #[.int .i64 x,.int .i64 y,.int .i64 z] 191 (0,0))
theorem alp3 (W:World) (o:Obj):Pure W (W.alloc o):=qp
theorem BA3.pure {n:Nat} {x y z:Int} {W W' : World} (h:BA3 n x y z W) (hp:Pure W W'):BA3 n x y z W':=(hp.block _ (lob h)).trans h
theorem BA3.cells {n:Nat} {x y z:Int} {W:World} (h:BA3 n x y z W):W.cell? ⟨n,0,none⟩=some (.int .i64 x)∧W.cell? ⟨n,1,none⟩=some (.int .i64 y)∧W.cell? ⟨n,2,none⟩=some (.int .i64 z)∧W.frozen? ⟨n,0,none⟩=false∧W.frozen? ⟨n,1,none⟩=false∧W.frozen? ⟨n,2,none⟩=false:=by
 unfold BA3 at h
 refine ⟨?_,?_,?_,?_,?_,?_⟩ <;> simp [World.cell?,World.frozen?,h]
theorem BA3.other {n m:Nat} {x y z:Int} {u v t:Value} {W:World} (h:BA3 n x y z W) (hn:m≠n):BA3 n x y z (((W.setCell ⟨m,0,none⟩ u).setCell ⟨m,1,none⟩ v).setCell ⟨m,2,none⟩ t):=by
 exact bso (bso (bso h _ hn _) _ hn _) _ hn _
theorem BA3.put {n:Nat} {x y z:Int} {W:World} (h:BA3 n x y z W) (u v t:Int):BA3 n u v t (((W.setCell ⟨n,0,none⟩ (.int .i64 u)).setCell ⟨n,1,none⟩ (.int .i64 v)).setCell ⟨n,2,none⟩ (.int .i64 t)):=by
 have:=bsc (bsc (bsc h 0 (.int .i64 u)) 1 (.int .i64 v)) 2 (.int .i64 t)
 unfold BA3
 simpa using this
def BA4 (n:Nat) (x y z:Int) (W:World):Prop:=W.cell? ⟨n,0,none⟩=some (.int .i64 x)∧W.cell? ⟨n,1,none⟩=some (.int .i64 y)∧W.cell? ⟨n,2,none⟩=some (.int .i64 z)
theorem BA4.put {n:Nat} {p q r:Value} {W:World} (h:W.heap[n]?=some (.cells #[p,q,r] 92 (0,0))) (u v t:Int):BA4 n u v t (((W.setCell ⟨n,0,none⟩ (.int .i64 u)).setCell ⟨n,1,none⟩ (.int .i64 v)).setCell ⟨n,2,none⟩ (.int .i64 t)):=by
 have hh:=bsc (bsc (bsc h 0 (.int .i64 u)) 1 (.int .i64 v)) 2 (.int .i64 t)
 have e:=cob hh
 exact ⟨(e 0).trans qb,(e 1).trans qb,(e 2).trans qb⟩
theorem compare3_any (nx ny:Nat) (x0 x1 x2 y0 y1 y2:Int) (w:World) (hx:BA3 nx x0 x1 x2 w) (hy:BA3 ny y0 y1 y2 w) :
 Calls Tryz.prog 192 #[.slice (some ⟨nx,0,none⟩) 3 3,.slice (some ⟨ny,0,none⟩) 3 3] w fun e w'=>e=.returned (.int .i64 (c3 x0 x1 x2 y0 y1 y2))∧w'=w:=by
 obtain ⟨p0,p1,p2,_,_,_⟩:=hx.cells
 obtain ⟨q0,q1,q2,_,_,_⟩:=hy.cells
 have h0:=hid (fun W=>Tryz.cmp_Compare_int x0 y0 W)
 have h1:=hid (fun W=>Tryz.cmp_Compare_int x1 y1 W)
 have h2:=hid (fun W=>Tryz.cmp_Compare_int x2 y2 W)
 clear hx hy
 unfold c3
 generalize Lib.compareInt x0 y0=X0 at *
 generalize Lib.compareInt x1 y1=X1 at *
 generalize Lib.compareInt x2 y2=X2 at *
 by_cases e0:X0=0
 ·subst e0
  by_cases e1:X1=0
  ·subst e1
   by_cases e2:X2=0
   ·subst e2
    go_enter Tryz.func192,Tryz.ntmps192
    go_wp2
    go_loop [5,6,7,8,11] (fun _ _ _ _ i=>i=.int .i64 0∨i=.int .i64 1∨i=.int .i64 2∨i=.int .i64 3) (fun _ _ _ _ i=>3-(RowKit.intOf i).toNat)
    case atStart=>exact .inl rfl
    case round =>
     rcases hrel with rfl|rfl|rfl|rfl
     ·go_wp2_with (first|(go_at_call 156;refine (h0.out _).mono ?_;rintro e w1 ⟨rfl,rfl⟩)|fail)
      go_round
      case rel=>exact .inr (.inl rfl)
      case measure=>simp [RowKit.intOf]
     ·go_wp2_with (first|(go_at_call 156;refine (h1.out _).mono ?_;rintro e w1 ⟨rfl,rfl⟩)|fail)
      go_round
      case rel=>exact .inr (.inr (.inl rfl))
      case measure=>simp [RowKit.intOf]
     ·go_wp2_with (first|(go_at_call 156;refine (h2.out _).mono ?_;rintro e w1 ⟨rfl,rfl⟩)|fail)
      go_round
      case rel=>exact .inr (.inr (.inr rfl))
      case measure=>simp [RowKit.intOf]
     ·go_wp2
      go_ret
      exact ⟨by simp,rfl⟩
   ·have e2' : (X2 != 0)=true:=by simp [e2]
    go_enter Tryz.func192,Tryz.ntmps192
    go_wp2
    go_loop [5,6,7,8,11] (fun _ _ _ _ i=>i=.int .i64 0∨i=.int .i64 1∨i=.int .i64 2) (fun _ _ _ _ i=>3-(RowKit.intOf i).toNat)
    case atStart=>exact .inl rfl
    case round =>
     rcases hrel with rfl|rfl|rfl
     ·go_wp2_with (first|(go_at_call 156;refine (h0.out _).mono ?_;rintro e w1 ⟨rfl,rfl⟩)|fail)
      go_round
      case rel=>exact .inr (.inl rfl)
      case measure=>simp [RowKit.intOf]
     ·go_wp2_with (first|(go_at_call 156;refine (h1.out _).mono ?_;rintro e w1 ⟨rfl,rfl⟩)|fail)
      go_round
      case rel=>exact .inr (.inr rfl)
      case measure=>simp [RowKit.intOf]
     ·go_wp2_with (first|(go_at_call 156;refine (h2.out _).mono ?_;rintro e w1 ⟨rfl,rfl⟩)|fail)
      go_ret
      exact ⟨by simp,rfl⟩
  ·have e1' : (X1 != 0)=true:=by simp [e1]
   go_enter Tryz.func192,Tryz.ntmps192
   go_wp2
   go_loop [5,6,7,8,11] (fun _ _ _ _ i=>i=.int .i64 0∨i=.int .i64 1) (fun _ _ _ _ i=>3-(RowKit.intOf i).toNat)
   case atStart=>exact .inl rfl
   case round =>
    rcases hrel with rfl|rfl
    ·go_wp2_with (first|(go_at_call 156;refine (h0.out _).mono ?_;rintro e w1 ⟨rfl,rfl⟩)|fail)
     go_round
     case rel=>exact .inr rfl
     case measure=>simp [RowKit.intOf]
    ·go_wp2_with (first|(go_at_call 156;refine (h1.out _).mono ?_;rintro e w1 ⟨rfl,rfl⟩)|fail)
     go_ret
     exact ⟨by simp,rfl⟩
 ·have e0' : (X0 != 0)=true:=by simp [e0]
  go_enter Tryz.func192,Tryz.ntmps192
  go_wp2
  go_loop [5,6,7,8,11] (fun _ _ _ _ i=>i=.int .i64 0) (fun _ _ _ _ i=>3-(RowKit.intOf i).toNat)
  case atStart=>rfl
  case round =>
   subst hrel
   go_wp2_with (first|(go_at_call 156;refine (h0.out _).mono ?_;rintro e w1 ⟨rfl,rfl⟩)|fail)
   go_ret
   exact ⟨by simp,rfl⟩
theorem later_c3 (a b:Pr):later a b=if c3 (agel a) a.inc a.st (agel b) b.inc b.st<0 then b else a:=by
 obtain ⟨a1,a2,a3⟩:=a
 obtain ⟨b1,b2,b3⟩:=b
 unfold later c3 agel Lib.compareInt
 dsimp only
 by_cases h1:a3=2 <;> by_cases h2:b3=2 <;> by_cases h3:a2<b2 <;> by_cases h4:b2<a2 <;> by_cases h5:a3<b3 <;> by_cases h6:b3<a3 <;> simp only [h1,h2,h3,h4,h5,h6,if_true,if_false,true_or,false_or] <;> (try (exfalso;omega)) <;> (try simp) <;> (try (intros;omega))
def Bz (wz:World) (n:Nat) (W:World):Prop:=wz.heap.size≤n∧BA3 n 0 0 0 W
theorem Bz.pure {wz W W' : World} {n:Nat} (h:Bz wz n W) (hp:Pure W W'):Bz wz n W':=⟨h.1,h.2.pure hp⟩
theorem Bz.new {wz W:World} (h:Pure wz W):Bz wz W.heap.size (W.alloc (.cells #[.int .i64 0,.int .i64 0,.int .i64 0] 191)):=⟨h.size,ban _ _⟩
theorem Bz.ne {wz W:World} {n:Nat} (h:Bz wz n W):n≠W.heap.size:=fun e=>by have:=lob h.2;omega
def pn (n:Nat):Value:=.pointer (some ⟨n,0,none⟩)
def vqA (a1 a2 a3 b1 b2 b3:Int) (n2 n3 n4:Nat) (x y u v:Value):Act:=⟨#[.agg #[.int .i64 a1,.int .i64 a2,.int .i64 a3],.agg #[.int .i64 b1,.int .i64 b2,.int .i64 b3],pn n2,pn n3,pn n4,x,y,.agg #[.int .i64 a1,.int .i64 a2,.int .i64 a3],u,.agg #[.int .i64 b1,.int .i64 b2,.int .i64 b3],v,undef,undef,undef,undef,undef,undef],[]⟩
theorem vlater_any (a b:Pr) (w:World):Calls Tryz.prog 151 #[pv a,pv b] w fun e w'=>e=.returned (pv (later a b))∧Pure w w':=by
 have ha:=hid (fun W=>age_any a W)
 have hb:=hid (fun W=>age_any b W)
 rw [later_c3]
 generalize agel a=la at *
 generalize agel b=lb at *
 obtain ⟨r,hr⟩:=qe ((if c3 la a.inc a.st lb b.inc b.st<0 then b else a))
 rw [←hr]
 have Hr:=hid hr
 clear hr
 obtain ⟨a1,a2,a3⟩:=a
 obtain ⟨b1,b2,b3⟩:=b
 obtain ⟨r1,r2,r3⟩:=r
 unfold pv at *
 dsimp only at *
 have hcm:=hid (fun nx ny W h1 h2=>compare3_any nx ny la a2 a3 lb b2 b3 W h1 h2)
 generalize c3 la a2 a3 lb b2 b3=c at *
 obtain ⟨wz,hwz⟩:=qe (((w.alloc (.cells #[.int .i64 a1,.int .i64 a2,.int .i64 a3] 92)).alloc (.cells #[.int .i64 b1,.int .i64 b2,.int .i64 b3] 92)).alloc (.cells #[.int .i64 0,.int .i64 0,.int .i64 0] 92))
 have Hpz:=qh (Pure w wz) (by rw [hwz];exact (qp.alloc qb _).alloc qc _)
 have n0:=ban w (.cells #[.int .i64 a1,.int .i64 a2,.int .i64 a3] 92)
 have n1:=ban (w.alloc (.cells #[.int .i64 a1,.int .i64 a2,.int .i64 a3] 92)) (.cells #[.int .i64 b1,.int .i64 b2,.int .i64 b3] 92)
 have n2:=ban ((w.alloc (.cells #[.int .i64 a1,.int .i64 a2,.int .i64 a3] 92)).alloc (.cells #[.int .i64 b1,.int .i64 b2,.int .i64 b3] 92)) (.cells #[.int .i64 0,.int .i64 0,.int .i64 0] 92)
 rw [World.size_alloc] at n1
 rw [World.size_alloc,World.size_alloc] at n2
 have B2:=qh (wz.heap[w.heap.size]?=some (.cells #[.int .i64 a1,.int .i64 a2,.int .i64 a3] 92 (0,0))) (by rw [hwz];exact bao (bao n0 _) _)
 have B3:=qh (wz.heap[w.heap.size+1]?=some (.cells #[.int .i64 b1,.int .i64 b2,.int .i64 b3] 92 (0,0))) (by rw [hwz];exact bao n1 _)
 have B4:=qh (wz.heap[w.heap.size+1+1]?=some (.cells #[.int .i64 0,.int .i64 0,.int .i64 0] 92 (0,0))) (by rw [hwz];exact n2)
 have Hn:=qh (w.heap.size≤w.heap.size+1+1) (by omega)
 clear n0 n1 n2
 go_enter Tryz.func151,Tryz.ntmps151
 go_upto_region 1 with fail
 rw [←hwz]
 clear hwz
 generalize hn4:w.heap.size+1+1=n4r at *
 generalize hn3:w.heap.size+1=n3 at *
 generalize hn2:w.heap.size=n2 at *
 have Hn2:=hid hn2
 clear hn2 hn3
 go_cut [5,6] from 7 (fun p5 p6 W=>∃(n4 n5:Nat),p5=.pointer (some ⟨n4,0,none⟩)∧p6=.pointer (some ⟨n5,0,none⟩)∧BA3 n4 la a2 a3 W∧BA3 n5 lb b2 b3 W∧Pure wz W)
 case first =>
  have hS:=hid (fun W (hW:Pure wz W)=>(show W.cell? ⟨n2,0,none⟩=some (.int .i64 a1)∧W.cell? ⟨n2,1,none⟩=some (.int .i64 a2)∧W.cell? ⟨n2,2,none⟩=some (.int .i64 a3)∧W.cell? ⟨n3,0,none⟩=some (.int .i64 b1)∧W.cell? ⟨n3,1,none⟩=some (.int .i64 b2)∧W.cell? ⟨n3,2,none⟩=some (.int .i64 b3) from
   ⟨cob ((hW.block _ (lob B2.out)).trans B2.out) 0,cob ((hW.block _ (lob B2.out)).trans B2.out) 1,cob ((hW.block _ (lob B2.out)).trans B2.out) 2,cob ((hW.block _ (lob B3.out)).trans B3.out) 0,cob ((hW.block _ (lob B3.out)).trans B3.out) 1,cob ((hW.block _ (lob B3.out)).trans B3.out) 2⟩))
  refine wp_region_held_drew (S:=(fun W=>W.cell? ⟨n2,0,none⟩=some (.int .i64 a1)∧W.cell? ⟨n2,1,none⟩=some (.int .i64 a2)∧W.cell? ⟨n2,2,none⟩=some (.int .i64 a3)∧W.cell? ⟨n3,0,none⟩=some (.int .i64 b1)∧W.cell? ⟨n3,1,none⟩=some (.int .i64 b2)∧W.cell? ⟨n3,2,none⟩=some (.int .i64 b3))) qk ?_ (fun hHeld=>?_)
  ·exact hS.out _ qv
  obtain ⟨y0,hy0⟩:=qe (wz.drew)
  have Q0:=qh (Pure wz y0) (by rw [hy0];exact qv)
  rw [←hy0] at hHeld ⊢
  clear hy0
  refine tkA 0 ?_
  refine tkA 2 ?_
  refine asG 6 #[true,false,true,false,false,false,false,false] (vqA a1 a2 a3 b1 b2 b3 n2 n3 n4r undef undef undef undef) y0 fun G up dn=>?_
  clear hHeld
  have N211:∀n4 n5 W,Pure wz W→Bz wz n4 W→Bz wz n5 W→n4≠n5→G 2 #[true,true,true,true,true,true,false,false] (vqA a1 a2 a3 b1 b2 b3 n2 n3 n4r (pn n4) (pn n5) (.agg #[.int .i64 la,.int .i64 a2,.int .i64 a3]) (.agg #[.int .i64 lb,.int .i64 b2,.int .i64 b3])) W:=by
   intro n4 n5 y4 q i4 i5 ne
   refine dn _ _ _ _ ?_
   obtain ⟨No4,Z4⟩:=i4
   obtain ⟨No5,Z5⟩:=i5
   have Q4:=hid q
   have No4:=hid No4
   have No5:=hid No5
   have Z4:=hid Z4
   have Z5:=hid Z5
   have Ne:=hid ne
   clear q ne up dn
   unfold vqA pn
   obtain ⟨q0,q1,q2,q3,q4,q5⟩:=Z4.out.cells
   refine tkC 6 fun K hK=>?_
   go_simp
   refine hK.out undef _ (by exact hS.out _ (Below.setCell (Below.setCell (Below.setCell Q4.out No4.out _) No4.out _) No4.out _)) fun hHeld=>?_
   clear hK K
   obtain ⟨y5,hy⟩:=qe ((((y4.setCell ⟨n4,0,none⟩ (.int .i64 la)).setCell ⟨n4,1,none⟩ (.int .i64 a2)).setCell ⟨n4,2,none⟩ (.int .i64 a3)))
   rw [←hy] at hHeld ⊢
   have Q5:=qh (Pure wz y5) (by rw [hy];exact Below.setCell (Below.setCell (Below.setCell Q4.out No4.out _) No4.out _) No4.out _)
   have Z5:=qh (BA3 n5 0 0 0 y5) (by rw [hy];exact Z5.out.other Ne.out)
   have Z4:=qh (BA3 n4 la a2 a3 y5) (by rw [hy];exact Z4.out.put _ _ _)
   clear hy q0 q1 q2 q3 q4 q5
   obtain ⟨q0,q1,q2,q3,q4,q5⟩:=Z5.out.cells
   refine tkC 7 fun K hK=>?_
   go_simp
   refine hK.out undef _ (by exact hS.out _ (Below.setCell (Below.setCell (Below.setCell Q5.out No5.out _) No5.out _) No5.out _)) fun hHeld=>?_
   clear hK K
   obtain ⟨y6,hy⟩:=qe ((((y5.setCell ⟨n5,0,none⟩ (.int .i64 lb)).setCell ⟨n5,1,none⟩ (.int .i64 b2)).setCell ⟨n5,2,none⟩ (.int .i64 b3)))
   rw [←hy] at hHeld ⊢
   have Q6:=qh (Pure wz y6) (by rw [hy];exact Below.setCell (Below.setCell (Below.setCell Q5.out No5.out _) No5.out _) No5.out _)
   have Z4:=qh (BA3 n4 la a2 a3 y6) (by rw [hy];exact Z4.out.other (fun e=>Ne.out (Eq.symm e)))
   have Z5:=qh (BA3 n5 lb b2 b3 y6) (by rw [hy];exact Z5.out.put _ _ _)
   clear hy q0 q1 q2 q3 q4 q5
   refine wpAnyH_done qk ?_ _
   have QF:=Q6
   clear hHeld
   go_wp2
   go_meet
   case rel=>exact ⟨_,_,rfl,rfl,Z4.out,Z5.out,QF.out⟩
  have N111:∀n4 n5 W,Pure wz W→Bz wz n4 W→Bz wz n5 W→n4≠n5→G 3 #[true,true,true,false,true,true,false,false] (vqA a1 a2 a3 b1 b2 b3 n2 n3 n4r (pn n4) (pn n5) (.agg #[.int .i64 la,.int .i64 a2,.int .i64 a3]) undef) W:=by
   intro n4 n5 W q i4 i5 ne
   refine dn _ _ _ _ (wpAnyH_ready (rs:=[3]) qk qb ?_)
   unfold vqA pn
   refine tkM 3 (fun K hK=>?_) AllReadyH.nil
   ·go_simp;go_at_call 191;refine (hb.out _).mono ?_;rintro e y ⟨rfl,hp⟩;exact hK.out _ _ (hS.out _ (q.then_ hp)) fun _=>up _ _ _ _ (N211 _ _ _ (q.then_ hp) (i4.pure hp) (i5.pure hp) ne)
  have N011:∀n4 n5 W,Pure wz W→Bz wz n4 W→Bz wz n5 W→n4≠n5→G 4 #[true,false,true,false,true,true,false,false] (vqA a1 a2 a3 b1 b2 b3 n2 n3 n4r (pn n4) (pn n5) undef undef) W:=by
   intro n4 n5 W q i4 i5 ne
   refine dn _ _ _ _ (wpAnyH_ready (rs:=[1]) qk qb ?_)
   unfold vqA pn
   refine tkM 1 (fun K hK=>?_) AllReadyH.nil
   ·go_simp;go_at_call 191;refine (ha.out _).mono ?_;rintro e y ⟨rfl,hp⟩;exact hK.out _ _ (hS.out _ (q.then_ hp)) fun _=>up _ _ _ _ (N111 _ _ _ (q.then_ hp) (i4.pure hp) (i5.pure hp) ne)
  have N210:∀n4 W,Pure wz W→Bz wz n4 W→G 3 #[true,true,true,true,true,false,false,false] (vqA a1 a2 a3 b1 b2 b3 n2 n3 n4r (pn n4) undef (.agg #[.int .i64 la,.int .i64 a2,.int .i64 a3]) (.agg #[.int .i64 lb,.int .i64 b2,.int .i64 b3])) W:=by
   intro n4 W q i4
   refine dn _ _ _ _ (wpAnyH_ready (rs:=[5]) qk qb ?_)
   unfold vqA pn
   refine tkM 5 (fun K hK=>?_) AllReadyH.nil
   ·go_simp;have hp:=alp3 W (.cells #[.int .i64 0,.int .i64 0,.int .i64 0] 191);exact hK.out _ _ (hS.out _ (q.then_ hp)) fun _=>up _ _ _ _ (N211 _ _ _ (q.then_ hp) (i4.pure hp) (Bz.new q) i4.ne)
  have N110:∀n4 W,Pure wz W→Bz wz n4 W→G 4 #[true,true,true,false,true,false,false,false] (vqA a1 a2 a3 b1 b2 b3 n2 n3 n4r (pn n4) undef (.agg #[.int .i64 la,.int .i64 a2,.int .i64 a3]) undef) W:=by
   intro n4 W q i4
   refine dn _ _ _ _ (wpAnyH_ready (rs:=[3,5]) qk qb ?_)
   unfold vqA pn
   refine tkM 3 (fun K hK=>?_) (tkM 5 (fun K hK=>?_) AllReadyH.nil)
   ·go_simp;go_at_call 191;refine (hb.out _).mono ?_;rintro e y ⟨rfl,hp⟩;exact hK.out _ _ (hS.out _ (q.then_ hp)) fun _=>up _ _ _ _ (N210 _ _ (q.then_ hp) (i4.pure hp))
   ·go_simp;have hp:=alp3 W (.cells #[.int .i64 0,.int .i64 0,.int .i64 0] 191);exact hK.out _ _ (hS.out _ (q.then_ hp)) fun _=>up _ _ _ _ (N111 _ _ _ (q.then_ hp) (i4.pure hp) (Bz.new q) i4.ne)
  have N010:∀n4 W,Pure wz W→Bz wz n4 W→G 5 #[true,false,true,false,true,false,false,false] (vqA a1 a2 a3 b1 b2 b3 n2 n3 n4r (pn n4) undef undef undef) W:=by
   intro n4 W q i4
   refine dn _ _ _ _ (wpAnyH_ready (rs:=[1,5]) qk qb ?_)
   unfold vqA pn
   refine tkM 1 (fun K hK=>?_) (tkM 5 (fun K hK=>?_) AllReadyH.nil)
   ·go_simp;go_at_call 191;refine (ha.out _).mono ?_;rintro e y ⟨rfl,hp⟩;exact hK.out _ _ (hS.out _ (q.then_ hp)) fun _=>up _ _ _ _ (N110 _ _ (q.then_ hp) (i4.pure hp))
   ·go_simp;have hp:=alp3 W (.cells #[.int .i64 0,.int .i64 0,.int .i64 0] 191);exact hK.out _ _ (hS.out _ (q.then_ hp)) fun _=>up _ _ _ _ (N011 _ _ _ (q.then_ hp) (i4.pure hp) (Bz.new q) i4.ne)
  have N201:∀n5 W,Pure wz W→Bz wz n5 W→G 3 #[true,true,true,true,false,true,false,false] (vqA a1 a2 a3 b1 b2 b3 n2 n3 n4r undef (pn n5) (.agg #[.int .i64 la,.int .i64 a2,.int .i64 a3]) (.agg #[.int .i64 lb,.int .i64 b2,.int .i64 b3])) W:=by
   intro n5 W q i5
   refine dn _ _ _ _ (wpAnyH_ready (rs:=[4]) qk qb ?_)
   unfold vqA pn
   refine tkM 4 (fun K hK=>?_) AllReadyH.nil
   ·go_simp;have hp:=alp3 W (.cells #[.int .i64 0,.int .i64 0,.int .i64 0] 191);exact hK.out _ _ (hS.out _ (q.then_ hp)) fun _=>up _ _ _ _ (N211 _ _ _ (q.then_ hp) (Bz.new q) (i5.pure hp) (Ne.symm i5.ne))
  have N101:∀n5 W,Pure wz W→Bz wz n5 W→G 4 #[true,true,true,false,false,true,false,false] (vqA a1 a2 a3 b1 b2 b3 n2 n3 n4r undef (pn n5) (.agg #[.int .i64 la,.int .i64 a2,.int .i64 a3]) undef) W:=by
   intro n5 W q i5
   refine dn _ _ _ _ (wpAnyH_ready (rs:=[3,4]) qk qb ?_)
   unfold vqA pn
   refine tkM 3 (fun K hK=>?_) (tkM 4 (fun K hK=>?_) AllReadyH.nil)
   ·go_simp;go_at_call 191;refine (hb.out _).mono ?_;rintro e y ⟨rfl,hp⟩;exact hK.out _ _ (hS.out _ (q.then_ hp)) fun _=>up _ _ _ _ (N201 _ _ (q.then_ hp) (i5.pure hp))
   ·go_simp;have hp:=alp3 W (.cells #[.int .i64 0,.int .i64 0,.int .i64 0] 191);exact hK.out _ _ (hS.out _ (q.then_ hp)) fun _=>up _ _ _ _ (N111 _ _ _ (q.then_ hp) (Bz.new q) (i5.pure hp) (Ne.symm i5.ne))
  have N001:∀n5 W,Pure wz W→Bz wz n5 W→G 5 #[true,false,true,false,false,true,false,false] (vqA a1 a2 a3 b1 b2 b3 n2 n3 n4r undef (pn n5) undef undef) W:=by
   intro n5 W q i5
   refine dn _ _ _ _ (wpAnyH_ready (rs:=[1,4]) qk qb ?_)
   unfold vqA pn
   refine tkM 1 (fun K hK=>?_) (tkM 4 (fun K hK=>?_) AllReadyH.nil)
   ·go_simp;go_at_call 191;refine (ha.out _).mono ?_;rintro e y ⟨rfl,hp⟩;exact hK.out _ _ (hS.out _ (q.then_ hp)) fun _=>up _ _ _ _ (N101 _ _ (q.then_ hp) (i5.pure hp))
   ·go_simp;have hp:=alp3 W (.cells #[.int .i64 0,.int .i64 0,.int .i64 0] 191);exact hK.out _ _ (hS.out _ (q.then_ hp)) fun _=>up _ _ _ _ (N011 _ _ _ (q.then_ hp) (Bz.new q) (i5.pure hp) (Ne.symm i5.ne))
  have N200:∀W,Pure wz W→G 4 #[true,true,true,true,false,false,false,false] (vqA a1 a2 a3 b1 b2 b3 n2 n3 n4r undef undef (.agg #[.int .i64 la,.int .i64 a2,.int .i64 a3]) (.agg #[.int .i64 lb,.int .i64 b2,.int .i64 b3])) W:=by
   intro W q
   refine dn _ _ _ _ (wpAnyH_ready (rs:=[4,5]) qk qb ?_)
   unfold vqA pn
   refine tkM 4 (fun K hK=>?_) (tkM 5 (fun K hK=>?_) AllReadyH.nil)
   ·go_simp;have hp:=alp3 W (.cells #[.int .i64 0,.int .i64 0,.int .i64 0] 191);exact hK.out _ _ (hS.out _ (q.then_ hp)) fun _=>up _ _ _ _ (N210 _ _ (q.then_ hp) (Bz.new q))
   ·go_simp;have hp:=alp3 W (.cells #[.int .i64 0,.int .i64 0,.int .i64 0] 191);exact hK.out _ _ (hS.out _ (q.then_ hp)) fun _=>up _ _ _ _ (N201 _ _ (q.then_ hp) (Bz.new q))
  have N100:∀W,Pure wz W→G 5 #[true,true,true,false,false,false,false,false] (vqA a1 a2 a3 b1 b2 b3 n2 n3 n4r undef undef (.agg #[.int .i64 la,.int .i64 a2,.int .i64 a3]) undef) W:=by
   intro W q
   refine dn _ _ _ _ (wpAnyH_ready (rs:=[3,4,5]) qk qb ?_)
   unfold vqA pn
   refine tkM 3 (fun K hK=>?_) (tkM 4 (fun K hK=>?_) (tkM 5 (fun K hK=>?_) AllReadyH.nil))
   ·go_simp;go_at_call 191;refine (hb.out _).mono ?_;rintro e y ⟨rfl,hp⟩;exact hK.out _ _ (hS.out _ (q.then_ hp)) fun _=>up _ _ _ _ (N200 _ (q.then_ hp))
   ·go_simp;have hp:=alp3 W (.cells #[.int .i64 0,.int .i64 0,.int .i64 0] 191);exact hK.out _ _ (hS.out _ (q.then_ hp)) fun _=>up _ _ _ _ (N110 _ _ (q.then_ hp) (Bz.new q))
   ·go_simp;have hp:=alp3 W (.cells #[.int .i64 0,.int .i64 0,.int .i64 0] 191);exact hK.out _ _ (hS.out _ (q.then_ hp)) fun _=>up _ _ _ _ (N101 _ _ (q.then_ hp) (Bz.new q))
  have N000:∀W,Pure wz W→G 6 #[true,false,true,false,false,false,false,false] (vqA a1 a2 a3 b1 b2 b3 n2 n3 n4r undef undef undef undef) W:=by
   intro W q
   refine dn _ _ _ _ (wpAnyH_ready (rs:=[1,4,5]) qk qb ?_)
   unfold vqA pn
   refine tkM 1 (fun K hK=>?_) (tkM 4 (fun K hK=>?_) (tkM 5 (fun K hK=>?_) AllReadyH.nil))
   ·go_simp;go_at_call 191;refine (ha.out _).mono ?_;rintro e y ⟨rfl,hp⟩;exact hK.out _ _ (hS.out _ (q.then_ hp)) fun _=>up _ _ _ _ (N100 _ (q.then_ hp))
   ·go_simp;have hp:=alp3 W (.cells #[.int .i64 0,.int .i64 0,.int .i64 0] 191);exact hK.out _ _ (hS.out _ (q.then_ hp)) fun _=>up _ _ _ _ (N010 _ _ (q.then_ hp) (Bz.new q))
   ·go_simp;have hp:=alp3 W (.cells #[.int .i64 0,.int .i64 0,.int .i64 0] 191);exact hK.out _ _ (hS.out _ (q.then_ hp)) fun _=>up _ _ _ _ (N001 _ _ (q.then_ hp) (Bz.new q))
  exact N000 _ Q0.out
 case rest =>
 obtain ⟨n4,n5,rfl,rfl,hZ4,hZ5,hpc⟩:=hcut
 have hh:=hid (fun n=>hcm.out n4 n5 (wc.drewN n) hZ4 hZ5)
 have Hpc:=qh (Pure w wc) (Hpz.out.then_ hpc)
 have Hnw:=qh (w.heap.size≤n4r) (by rw [Hn2.out];exact Hn.out)
 have f0:=cob ((hpc.block _ (lob B2.out)).trans B2.out)
 have f1:=cob ((hpc.block _ (lob B3.out)).trans B3.out)
 have g4:=(hpc.block _ (lob B4.out)).trans B4.out
 have f4:=cob g4
 have B4w:=hid (fun (n:Nat)=>(show (wc.drewN n).heap[n4r]?=some (.cells #[.int .i64 0,.int .i64 0,.int .i64 0] 92 (0,0)) from g4))
 have g40:wc.frozen? ⟨n4r,0,none⟩=false:=by simp [World.frozen?,g4]
 have g41:wc.frozen? ⟨n4r,1,none⟩=false:=by simp [World.frozen?,g4]
 have g42:wc.frozen? ⟨n4r,2,none⟩=false:=by simp [World.frozen?,g4]
 have f00:wc.cell? ⟨n2,0,none⟩=some (.int .i64 a1):=f0 0
 have f01:wc.cell? ⟨n2,1,none⟩=some (.int .i64 a2):=f0 1
 have f02:wc.cell? ⟨n2,2,none⟩=some (.int .i64 a3):=f0 2
 have f10:wc.cell? ⟨n3,0,none⟩=some (.int .i64 b1):=f1 0
 have f11:wc.cell? ⟨n3,1,none⟩=some (.int .i64 b2):=f1 1
 have f12:wc.cell? ⟨n3,2,none⟩=some (.int .i64 b3):=f1 2
 have f40:wc.cell? ⟨n4r,0,none⟩=some (.int .i64 0):=f4 0
 have f41:wc.cell? ⟨n4r,1,none⟩=some (.int .i64 0):=f4 1
 have f42:wc.cell? ⟨n4r,2,none⟩=some (.int .i64 0):=f4 2
 have Hfin:=hid (fun (n:Nat) (u v t:Value)=>(show Pure w ((((wc.drewN n).setCell ⟨n4r,0,none⟩ u).setCell ⟨n4r,1,none⟩ v).setCell ⟨n4r,2,none⟩ t) from
  Below.setCell (Below.setCell (Below.setCell (show Pure w (wc.drewN n) from Hpc.out.trans ⟨rfl,rfl,rfl,Nat.le_refl _,fun _ _=>rfl⟩) Hnw.out _) Hnw.out _) Hnw.out _))
 clear f0 f1 f4 g4 hZ4 hZ5 hpc ha hb hn4
 by_cases hc:c<0
 ·have e:=Hr.out
  rw [if_pos hc] at e
  injection e with e1 e2 e3
  subst e1 e2 e3
  clear Hr
  go_wp2_with fail
  go_quiet ((go_at_call 192;exact Calls.quiet_of_same (hh.out _)))
  go_wp2
  have hB:=(show BA4 n4r r1 r2 r3 _ from BA4.put (W:=wc.drewN nq) (B4w.out nq) r1 r2 r3)
  obtain ⟨k0,k1,k2⟩:=hB
  exact bodyPost_ret (v:=.agg #[.int .i64 r1,.int .i64 r2,.int .i64 r3]) (by simp [results,Tryz.results151,go_sem,k0,k1,k2]) rfl ⟨rfl,Hfin.out _ _ _ _⟩
 ·have e:=Hr.out
  rw [if_neg hc] at e
  injection e with e1 e2 e3
  subst e1 e2 e3
  clear Hr
  go_wp2_with fail
  go_quiet ((go_at_call 192;exact Calls.quiet_of_same (hh.out _)))
  go_wp2
  have hB:=(show BA4 n4r r1 r2 r3 _ from BA4.put (W:=wc.drewN nq) (B4w.out nq) r1 r2 r3)
  obtain ⟨k0,k1,k2⟩:=hB
  exact bodyPost_ret (v:=.agg #[.int .i64 r1,.int .i64 r2,.int .i64 r3]) (by simp [results,Tryz.results151,go_sem,k0,k1,k2]) rfl ⟨rfl,Hfin.out _ _ _ _⟩
end Go.Proofs.YtdlpnhfgjficgaaGreat
