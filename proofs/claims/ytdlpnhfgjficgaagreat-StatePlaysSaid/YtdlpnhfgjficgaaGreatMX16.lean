import Derived.Test.YtdlpnhfgjficgaaGreatMDot
namespace Go.Proofs.YtdlpnhfgjficgaaGreat
section
open Go.RowKit Go.Maps
def FreshOr (w:World) (v v' : Value):Prop:=v'.ownBlock=v.ownBlock∨∃k,v'.ownBlock=some k∧w.heap.size≤k
theorem run_append_own2 {P:Program} (w:World) (base:Nat) (t ty e:TypeId) (i:TypeInfo) (z:Value) (size bytes:Nat) (ht:P.underlying t=some (.slice e)) (hi:P.info? e=some i) (hz:i.zero=some z)
 (hsize:i.size=size) (hby:i.bytes=bytes) (hzs:z.cells.size=size) (hsz:0<size)
 (v:Value) (n:Nat) (xs:List Value) (hown:w.ownsRow base e size v n xs)
 (a:Addr) (m c:Nat) (news:List Value) (hl:news.length=m*size) (hnews:∀j u,news[j]?=some u→w.cell? (a.add j)=some u) (h1:∀u ∈ news,u.oneCell'=true)
 (h63:n+m≤maxLen) (hbytes:(n+m)*bytes≤140737488355328) (hbase:base≤w.heap.size) :
 ∃v' w',(Builtin.append_ #[t,t] ty #[v,.slice (some a) m c]).run P w=.ok v' w'∧w'.ownsRow base e size v' (n+m) (xs++news)∧w.grownBy w' v.ownBlock∧FreshOr w v v':=by
 obtain ⟨v',w',hr,h2,h3,_⟩:=run_append_own (P:=P) w base t ty e i z size bytes ht hi hz hsize hby hzs hsz v n xs hown a m c news hl hnews h1 h63 hbytes hbase
 refine ⟨v',w',hr,h2,h3,?_⟩
 have hsmall:n+m≤9223372036854775807:=by simp only [maxLen] at h63;omega
 rcases hown.2 with ⟨rfl,rfl⟩|⟨g,cap,cur,rfl,hbg,hg,hnc,hcm,hcs,htake⟩
 ·have hx:xs=[]:=List.eq_nil_of_length_eq_zero (by simpa using hown.1)
  subst hx
  obtain ⟨v2,w2,hr2,g2,_,_⟩:=run_append_own (P:=P) w w.heap.size t ty e i z size bytes ht hi hz hsize hby hzs hsz (.slice none 0 0) 0 [] (World.ownsRow_nil _ _ _ _) a m c news hl hnews h1 h63 hbytes (Nat.le_refl _)
  rw [hr] at hr2
  injection hr2 with e1 _
  subst e1
  rcases g2.2 with ⟨rfl,_⟩|⟨g,cap,cur,rfl,hb,_⟩
  ·exact .inl rfl
  ·exact .inr ⟨g,rfl,hb⟩
 ·by_cases hroom:n+m≤cap
  ·subst hsize
   have hfit:n*i.size+news.length≤cur.size:=by rw [hl,hcs,←Nat.add_mul];exact Nat.mul_le_mul_right _ hroom
   have hr2:=run_append_room (P:=P) w t ty e i ht hi g n cap cur hg a m c news hl hnews h1 hroom hfit
   rw [hr] at hr2
   injection hr2 with e1 _
   subst e1
   exact .inl rfl
  ·subst hsize
   subst hby
   have holds:∀j u,xs[j]?=some u→w.cell? ((⟨g,0,none⟩ : Addr).add j)=some u:=hown.cells (g:=g) rfl
   have hr2:=run_append_grow (P:=P) w t ty e i z ht hi hz ⟨g,0,none⟩ n cap xs hown.1 holds a m c news hl hnews oe oe (growslice_fits oe hbytes)
   rw [hr] at hr2
   injection hr2 with e1 _
   subst e1
   exact .inr ⟨w.heap.size,rfl,Nat.le_refl _⟩
theorem wpList_append_rows2 {P:Program} {ops:Array Oper} {rest:List Oper} {o:Oper} {a:Act} {Q:Exit→Act→World→Prop} {w:World} (hgd:o.guard=none) (s x:Operand) (t:TypeId)
 (ho:o.op=.call { callee:=.builtin .append,args:=#[s,x],argTypes:=#[t,t] }) (base:Nat) (e:TypeId) (i:TypeInfo) (z:Value) (size bytes:Nat) (ht:P.underlying t=some (.slice e)) (hi:P.info? e=some i) (hz:i.zero=some z)
 (hsize:i.size=size) (hby:i.bytes=bytes) (hzs:z.cells.size=size) (hsz:0<size) (hb100:bytes≤100)
 (v:Value) (n:Nat) (xs:List Value) (hs:a.eval s=v) (hown:w.ownsRow base e size v n xs) (u:Value) (m:Nat) (news:List Value) (hx:a.eval x=u) (hu:Row w u m size news) (h1:∀u ∈ news,u.oneCell'=true) (hlen:n+m≤1000000) (hbase:base≤w.heap.size)
 (h:∀v' w',w'.ownsRow base e size v' (n+m) (xs++news)→w.grownBy w' v.ownBlock→FreshOr w v v'→wpList P ops Q rest (a.put o.dst v') w'):wpList P ops Q (o::rest) a w:=by
 obtain ⟨hl,ad,cap,rfl,hnc,hcm,hc⟩:=hu
 cases ad with
 | none =>
   have h0:cap=0:=by
    rcases hc with h|⟨_,_,e,_⟩
    ·exact h
    ·cases e
   have hm0:m=0:=by omega
   subst hm0;subst h0
   have hn0:news=[]:=List.eq_nil_of_length_eq_zero (by simpa using hl)
   subst hn0
   exact wpList_append_own_none hgd s x t ho base e i size ht hi v n xs hs hown hx (h v w (by simpa using hown) (World.grownBy.refl _ _) (.inl rfl))
 | some ad =>
   have hnews:∀j u,news[j]?=some u→w.cell? (ad.add j)=some u:=fun j u hj=>by
    have hjl:j<m*size:=by rw [←hl];exact (List.getElem?_eq_some_iff.1 hj).1
    rcases hc with rfl|⟨b,off,e',_,hcell⟩
    ·have:m=0:=by omega
     subst this;omega
    ·cases e'
     rw [Addr.add_lit,hcell j hjl];exact hj
   have hbytes:(n+m)*bytes≤140737488355328:=by
    calc (n+m)*bytes≤1000000*100:=Nat.mul_le_mul hlen hb100
     _≤140737488355328:=by decide
   obtain ⟨v',w',hrun,r1,r2,r3⟩:=run_append_own2 (P:=P) w base t o.type e i z size bytes ht hi hz hsize hby hzs hsz v n xs hown ad m cap news hl hnews h1 (by unfold maxLen;omega) hbytes hbase
   refine wpList_plain hgd fun K hK=>?_
   unfold Oper.wp
   simp [execOp,ho,resolve,invoke,builtin,hs,hx,hrun,Result.andThen]
   exact hK _ _ (h v' w' r1 r2 r3)
end
section
set_option maxHeartbeats 1000000
open Go.RowKit Go.Maps
theorem dsame_short {l k:List Dot} (h:l.length≠k.length):decide (l=k)=false:=by simp;exact fun e=>h (by rw [e])
theorem dsame_take {l k:List Dot} {i:Nat} (h:l.take i=k.take i) (h1:i<l.length) (h2:i<k.length) (e:l.getD i (0,0)=k.getD i (0,0)):l.take (i+1)=k.take (i+1):=by
 rw [tsd l i h1,tsd k i h2,h,e]
theorem dsame_full {l k:List Dot} (h:l.length=k.length) (e:l.take l.length=k.take l.length):decide (l=k)=true:=by rw [List.take_length,h,List.take_length] at e;simp [e]
theorem dsame_not {l k:List Dot} {i:Nat} (e:¬l.getD i (0,0)=k.getD i (0,0)):decide (l=k)=false:=by simp;exact fun h=>e (by rw [h])
theorem rdsame_any (v u:Value) (l k:List Dot) (w:World) (hv:Dots w v l) (hu:Dots w u k) :
 Calls Tryz.prog 106 #[v,u] w fun e w'=>e=.returned (.bool (decide (l=k)))∧Pure w w':=by
 obtain ⟨a,ca,rfl⟩:=hv.shape
 obtain ⟨b,cb,rfl⟩:=hu.shape
 have h2:l.length≤maxLen:=Row.len_le hv
 have h4:k.length≤maxLen:=Row.len_le hu
 unfold maxLen at h2 h4
 have Hv:=hid hv
 have Hu:=hid hu
 have heq:=dot_eqIn
 clear hv hu
 by_cases hl:l.length=k.length
 ·have hne:((l.length:Int) != (k.length:Int))=false:=by simp [hl]
  have hl1:l.length≤k.length:=by omega
  have hl2:k.length≤l.length:=by omega
  have Hl:=hid hl
  clear hl
  go_enter Tryz.func106,Tryz.ntmps106
  go_wp2
  go_loopw [5] (fun x wr=>∃i:Nat,i≤l.length∧x=.int .i64 i∧l.take i=k.take i∧∃n,wr=w.drewN n) (fun x _=>l.length-(RowKit.intOf x).toNat)
  case atStart=>exact ⟨0,Nat.zero_le _,rfl,by simp,0,rfl⟩
  case round =>
   obtain ⟨i,hi,rfl,ht,n,rfl⟩:=hrel
   by_cases hlt:i<l.length
   ·have hlk:i<k.length:=by omega
    obtain ⟨ba,oa,rfl,_,c0,c1⟩:=Dots.get Hv.out hlt
    obtain ⟨bb,ob,rfl,_,d0,d1⟩:=Dots.get Hu.out hlk
    have Hs:=hid (dsame_take ht hlt hlk)
    have Hn:=hid (@dsame_not l k i)
    have hlt' : (i:Int)<(l.length:Int):=by omega
    have hlk' : (i:Int)<(k.length:Int):=by omega
    clear ht
    generalize l.getD i (0,0)=x at *
    generalize k.getD i (0,0)=y at *
    obtain ⟨x1,x2⟩:=x
    obtain ⟨y1,y2⟩:=y
    dsimp only at c0 c1 d0 d1
    by_cases hxy:x1=y1∧x2=y2
    ·obtain ⟨rfl,rfl⟩:=hxy
     have Hs':=hid (Hs.out rfl)
     clear Hs Hn
     go_wp2_with fail
     go_quiet (fail)
     go_wp2
     go_roundw
     case rel=>exact ⟨i+1,by omega,by go_num,Hs'.out,_,rfl⟩
     case measure=>simp [RowKit.intOf];omega
    ·have hb:(decide (x1=y1) && decide (x2=y2))=false:=by simpa using hxy
     have Hf:=hid (Hn.out (fun e=>hxy (by cases e;exact ⟨rfl,rfl⟩)))
     clear hxy Hs Hn
     go_wp2_with fail
     go_quiet (fail)
     go_wp2
     go_ret
     exact ⟨ret_bool Hf.out.symm,(pdN _ n).then_ (pdN _ _)⟩
   ·have e:i=l.length:=by omega
    subst e
    have hlt' : ¬(l.length:Int)<(l.length:Int):=by omega
    have Hf:=hid (dsame_full Hl.out ht)
    clear ht
    go_wp2
    go_ret
    exact ⟨ret_bool Hf.out.symm,pdN _ _⟩
 ·have Hf:=hid (dsame_short hl)
  have hne:((l.length:Int) != (k.length:Int))=true:=by simp;omega
  go_enter Tryz.func106,Tryz.ntmps106
  go_wp2
  go_ret
  exact ⟨ret_bool Hf.out.symm,Below.refl _ _⟩
theorem rcsame_any (va vb vc vd:Value) (A B C D:List Dot) (w:World) (h1:Dots w va A) (h2:Dots w vb B) (h3:Dots w vc C) (h4:Dots w vd D) :
 Calls Tryz.prog 49 #[.agg #[va,vb],.agg #[vc,vd]] w fun e w'=>e=.returned (.bool (decide (A=C) && decide (B=D)))∧Pure w w':=by
 obtain ⟨wz,hwz⟩:=qe ((w.alloc (.cells #[va,vb] 32)).alloc (.cells #[vc,vd] 32))
 have Hwz:=qh (Pure w wz) (by rw [hwz];exact qp.alloc qb _)
 have b0:wz.heap[w.heap.size]?=some (.cells #[va,vb] 32 (0,0)):=by rw [hwz];exact bao (ban _ _) _
 have b1:wz.heap[w.heap.size+1]?=some (.cells #[vc,vd] 32 (0,0)):=by
  rw [hwz];have:=ban (w.alloc (.cells #[va,vb] 32)) (.cells #[vc,vd] 32)
  simpa using this
 have hp:=hid (fun W (hW:Pure wz W)=>Hwz.out.then_ hW)
 have s1:=hid (fun W (hW:Pure wz W)=>rdsame_any va vc A C W (Row.pure h1 (hp.out W hW)) (Row.pure h3 (hp.out W hW)))
 have s2:=hid (fun W (hW:Pure wz W)=>rdsame_any vb vd B D W (Row.pure h2 (hp.out W hW)) (Row.pure h4 (hp.out W hW)))
 obtain ⟨a0,c0,rfl⟩:=h1.shape
 obtain ⟨a1,c1,rfl⟩:=h2.shape
 obtain ⟨a2,c2,rfl⟩:=h3.shape
 obtain ⟨a3,c3,rfl⟩:=h4.shape
 have B0:=hid b0
 have B1:=hid b1
 clear h1 h2 h3 h4 b0 b1
 generalize decide (A=C)=X at *
 generalize decide (B=D)=Y at *
 go_enter Tryz.func49,Tryz.ntmps49
 go_wp2_with fail
 rw [←hwz]
 clear hwz
 refine (s1.out wz (Below.refl _ _)).mono ?_
 rintro e w1 ⟨rfl,hp1⟩
 have e0:=(hp1.block _ (lob B0.out)).trans B0.out
 have e1:=(hp1.block _ (lob B1.out)).trans B1.out
 have f0:w1.cell? ⟨w.heap.size,1,none⟩=some (.slice a1 B.length c1):=cob e0 1
 have f1:w1.cell? ⟨w.heap.size+1,1,none⟩=some (.slice a3 D.length c3):=cob e1 1
 have Hp1:=hid hp1
 clear e0 e1 hp1
 go_wp2_with fail
 refine (s2.out w1 Hp1.out).mono ?_
 rintro e w2 ⟨rfl,hp2⟩
 have Hp2:=hid ((hp.out w1 Hp1.out).then_ hp2)
 clear hp2
 cases X <;>
 ·go_wp2
  go_ret
  exact ⟨rfl,Hp2.out⟩
end
end Go.Proofs.YtdlpnhfgjficgaaGreat
