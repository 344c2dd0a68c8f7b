import Derived.Test.YtdlpnhfgjficgaaGreatMX19
import Derived.Deep.RegionHeld3
import Derived.Laws.StructEq
namespace Go.Proofs.YtdlpnhfgjficgaaGreat
section
set_option maxHeartbeats 1000000
open Go.RowKit Go.Maps
abbrev Dot:=Int × Int
def dcells (d:Dot):List Value:=[.int .i64 d.1,.int .i64 d.2]
def dvs (l:List Dot):List Value:=l.flatMap dcells
def Dots (w:World) (v:Value) (l:List Dot):Prop:=Row w v l.length 2 (dvs l)
def dv (d:Dot):Value:=.agg #[.int .i64 d.1,.int .i64 d.2]
theorem dvs_len (l:List Dot):(dvs l).length=l.length*2:=by
 induction l with
 | nil=>rfl
 | cons d l ih=>simp [dvs,dcells] at *;omega
theorem dvs_append (l k:List Dot):dvs (l++k)=dvs l++dvs k:=by simp [dvs]
theorem dvs_get:∀(l:List Dot) (k:Nat),k<l.length→(dvs l)[k*2]?=some (.int .i64 (l.getD k (0,0)).1)∧(dvs l)[k*2+1]?=some (.int .i64 (l.getD k (0,0)).2)
 | [],k,h=>absurd h (Nat.not_lt_zero _)
 | d::l,0,_=>⟨rfl,rfl⟩
 | d::l,k+1,h=>by
   have ih:=dvs_get l k (by simpa using h)
   have e1:(dvs (d::l))[(k+1)*2]?=(dvs l)[k*2]?:=by
    have:dvs (d::l)=.int .i64 d.1 :: .int .i64 d.2::dvs l:=rfl
    rw [this,show (k+1)*2=k*2+1+1 by omega];simp
   have e2:(dvs (d::l))[(k+1)*2+1]?=(dvs l)[k*2+1]?:=by
    have:dvs (d::l)=.int .i64 d.1 :: .int .i64 d.2::dvs l:=rfl
    rw [this,show (k+1)*2+1=k*2+1+1+1 by omega];simp
   rw [e1,e2];simpa [List.getD] using ih
theorem dvs_one (l:List Dot):∀u ∈ dvs l,u.oneCell'=true:=by
 intro u hu
 simp only [dvs,List.mem_flatMap,dcells] at hu
 obtain ⟨d,_,hd⟩:=hu
 simp at hd
 rcases hd with rfl|rfl <;> rfl
theorem Dots.shape {w:World} {v:Value} {l:List Dot} (h:Dots w v l):∃a cap,v=.slice a l.length cap:=Row.shape h
theorem Dots.get {w:World} {a:Option Addr} {n cap:Nat} {l:List Dot} (h:Dots w (.slice a n cap) l) {k:Nat} (hk:k<l.length) :
 ∃b off,a=some ⟨b,off,none⟩∧b<w.heap.size∧w.cell? ⟨b,off+k*2,none⟩=some (.int .i64 (l.getD k (0,0)).1)∧w.cell? ⟨b,off+k*2+1,none⟩=some (.int .i64 (l.getD k (0,0)).2):=by
 have e:n=l.length:=by obtain ⟨a',c',e⟩:=h.shape;injection e
 subst e
 obtain ⟨b,off,e,hb,hc⟩:=Row.elem h hk
 obtain ⟨g1,g2⟩:=dvs_get l k hk
 exact ⟨b,off,e,hb,(hc 0 oe).trans g1,(hc 1 oe).trans g2⟩
def dchk (d:Dot):Bool:=decide (1≤d.1) && decide (d.1≤1099511627776) && decide (1≤d.2) && decide (d.2≤1099511627776)
def dlt (a b:Dot):Bool:=decide (a.1<b.1) || (decide (a.1=b.1) && decide (a.2<b.2))
theorem rchk_any (d:Dot) (w:World) :
 Calls Tryz.prog 105 #[dv d] w fun e w'=>e=.returned (.bool (dchk d))∧Pure w w':=by
 obtain ⟨x,y⟩:=d
 have hp:=qh (∀o,Pure w (w.alloc o)) (fun o=>(Below.refl _ _).alloc (Nat.le_refl _) o)
 unfold dv dchk
 dsimp only
 by_cases h1:1≤x
 ·by_cases h2:x≤1099511627776
  ·by_cases h3:1≤y
   ·go_enter Tryz.func105,Tryz.ntmps105
    go_wp2
    go_ret
    exact ⟨ret_bool (by simp [h1,h2,h3]),hp.out _⟩
   ·go_enter Tryz.func105,Tryz.ntmps105
    go_wp2
    go_ret
    exact ⟨ret_bool qc,hp.out _⟩
  ·go_enter Tryz.func105,Tryz.ntmps105
   go_wp2
   go_ret
   exact ⟨ret_bool qc,hp.out _⟩
 ·go_enter Tryz.func105,Tryz.ntmps105
  go_wp2
  go_ret
  exact ⟨ret_bool qc,hp.out _⟩
theorem rless_any (d e:Dot) (w:World) :
 Calls Tryz.prog 163 #[dv d,dv e] w fun r w'=>r=.returned (.bool (dlt d e))∧Pure w w':=by
 obtain ⟨x,y⟩:=d
 obtain ⟨u,v⟩:=e
 have hp:=qh (∀o o',Pure w ((w.alloc o).alloc o')) (fun o o'=>((Below.refl _ _).alloc (Nat.le_refl _) o).alloc qb o')
 unfold dv dlt
 dsimp only
 by_cases h1:x<u
 ·go_enter Tryz.func163,Tryz.ntmps163
  go_wp2
  go_ret
  exact ⟨ret_bool (by simp [h1]),hp.out _ _⟩
 ·by_cases h2:x=u
  ·subst h2
   go_enter Tryz.func163,Tryz.ntmps163
   go_wp2
   go_ret
   exact ⟨ret_bool qb,hp.out _ _⟩
  ·have h2' : (x == u)=false:=by simp [h2]
   go_enter Tryz.func163,Tryz.ntmps163
   go_wp2
   go_ret
   exact ⟨ret_bool (by simp [h1]),hp.out _ _⟩
theorem dot_eqIn (W:World) (u v x y:Int):(Op.equalIn 10000 28 (.agg #[.int .i64 u,.int .i64 v]) (.agg #[.int .i64 x,.int .i64 y])).run Tryz.prog W=.ok (decide (u=x) && decide (v=y)) W:=by
 have hu:=Tryz.underlying28
 have hi:=Tryz.underlying3
 have hc:Tryz.prog.cellsOf 3=1:=by kernel_rfl
 have hf:Tryz.prog.underlying 28=some (.struct (Tryz.prog.fieldsOf 28)):=by simp only [Program.fieldsOf,hu]
 rw [run_equalIn_struct W 9999 28 _ _ hf qk]
 have hfs:(Tryz.prog.fieldsOf 28).toList=[{ name:= "Node",type:=3,offset:=0,embedded:=false,tag:= "",pkgPath:= "",byteOffset:=0 },{ name:= "N",type:=3,offset:=1,embedded:=false,tag:= "",pkgPath:= "",byteOffset:=8 }]:=by simp only [Program.fieldsOf,hu]
 rw [hfs]
 clear hu hf hfs
 by_cases h1:u=x <;> by_cases h2:v=y <;> simp [Op.eqFields,go_sem,h1,h2]
theorem tsd (l:List Dot) (k:Nat) (h:k<l.length):l.take (k+1)=l.take k++[l.getD k (0,0)]:=by
 rw [List.take_succ_eq_append_getElem h];simp [List.getD,h]
theorem notin_take_d {l:List Dot} {k:Nat} {x:Dot} (h:k<l.length) (hn:x ∉ l.take k) (hx:¬x=l.getD k (0,0)):x ∉ l.take (k+1):=by
 rw [tsd l k h];simp only [List.mem_append,List.mem_singleton];exact fun h=>h.elim hn hx
theorem mem_get_d {l:List Dot} {k:Nat} (h:k<l.length):l.getD k (0,0) ∈ l:=by simp [List.getD,h]
theorem rdhas_any (v:Value) (l:List Dot) (d:Dot) (w:World) (hr:Dots w v l) :
 Calls Tryz.prog 158 #[v,dv d] w fun r w'=>r=.returned (.bool (decide (d ∈ l)))∧Pure w w':=by
 obtain ⟨a,cap,rfl⟩:=hr.shape
 have hll:l.length≤maxLen:=Row.len_le hr
 unfold maxLen at hll
 have Hr:=hid hr
 have hp:=qh (∀o,Pure w (w.alloc o)) (fun o=>(Below.refl _ _).alloc (Nat.le_refl _) o)
 have heq:=dot_eqIn
 obtain ⟨x,y⟩:=d
 unfold dv
 clear hr
 go_enter Tryz.func158,Tryz.ntmps158
 go_wp2
 go_loopw [5] (fun i wr=>∃k n:Nat,k≤l.length∧i=.int .i64 k∧(x,y) ∉ l.take k∧wr=(w.alloc (.cells #[.int .i64 x,.int .i64 y] 28)).drewN n) (fun i _=>l.length-(RowKit.intOf i).toNat)
 case atStart=>exact ⟨0,0,Nat.zero_le _,rfl,by simp,rfl⟩
 case round =>
  obtain ⟨k,n,hk,rfl,hno,rfl⟩:=hrel
  by_cases hlt:k<l.length
  ·obtain ⟨b,off,rfl,hb,c0,c1⟩:=Dots.get (show Dots (w.alloc (.cells #[.int .i64 x,.int .i64 y] 28)) (.slice a l.length cap) l from Row.pure Hr.out (hp.out _)) hlt
   have hlt' : (k:Int)<(l.length:Int):=by omega
   have Hn:=hid (notin_take_d hlt hno)
   have Hm:=hid (mem_get_d hlt)
   clear hno
   generalize l.getD k (0,0)=z at *
   obtain ⟨z1,z2⟩:=z
   dsimp only at c0 c1
   by_cases he:z1=x∧z2=y
   ·obtain ⟨rfl,rfl⟩:=he
    have Hx:=qh (decide ((z1,z2) ∈ l)=true) (decide_eq_true Hm.out)
    go_wp2_with fail
    go_quiet (fail)
    go_wp2
    go_ret
    exact ⟨ret_bool Hx.out.symm,((hp.out _).then_ (pdN _ n)).then_ (pdN _ _)⟩
   ·have e1:(decide (z1=x) && decide (z2=y))=false:=by simpa using he
    have Hn':=hid (Hn.out (fun e=>he (by cases e;exact ⟨rfl,rfl⟩)))
    clear he
    go_wp2_with fail
    go_quiet (fail)
    go_wp2
    go_roundw
    case rel=>exact ⟨k+1,_,by omega,by go_num,Hn'.out,rfl⟩
    case measure=>simp [RowKit.intOf];omega
  ·have Hx:=hid (show decide ((x,y) ∈ l)=false by rw [List.take_of_length_le oe] at hno;simpa using hno)
   have hlt' : ¬(k:Int)<(l.length:Int):=by omega
   clear hno
   go_wp2
   go_ret
   exact ⟨ret_bool Hx.out.symm,(hp.out _).then_ (pdN _ _)⟩
end
section
set_option maxHeartbeats 1000000
set_option maxRecDepth 8000
open Go.RowKit Go.Maps
def dotB (d:Dot):List UInt8:=num d.1.toNat++num d.2.toNat
def Small (d:Dot):Prop:=0≤d.1∧d.1<9223372036854775808∧0≤d.2∧d.2<9223372036854775808
def rowB (l:List Dot):List UInt8:=num l.length++l.flatMap dotB
theorem dotB_len (d:Dot) (h:Small d):(dotB d).length≤20:=by
 have h1:=num_len d.1.toNat (by have:=h.2.1;omega)
 have h2:=num_len d.2.toNat (by have:=h.2.2.2;omega)
 simp [dotB];omega
theorem rdbytes_any (d:Dot) (w:World) (h:Small d) :
 Calls Tryz.prog 131 #[dv d] w fun r w'=>r=.returned (.string (bs (dotB d)))∧Pure w w':=by
 obtain ⟨x,y⟩:=d
 obtain ⟨h1,h2,h3,h4⟩:=h
 dsimp only at h1 h2 h3 h4
 have hc:∀W:World,Pure w W→W.cell? ⟨w.heap.size,0,none⟩=some (.int .i64 x)∧W.cell? ⟨w.heap.size,1,none⟩=some (.int .i64 y)→(W.cell? ⟨w.heap.size,0,none⟩=some (.int .i64 x)∧W.cell? ⟨w.heap.size,1,none⟩=some (.int .i64 y)∧Pure w W):=fun W a b=>⟨b.1,b.2,a⟩
 have hx:=hid (fun W=>rint_any x W h1 h2)
 have hy:=hid (fun W=>rint_any y W h3 h4)
 have l1:=num_len x.toNat oe
 have l2:=num_len y.toNat oe
 have hns:¬9223372036854775807<(bs (num x.toNat)).size+(bs (num y.toNat)).size:=by rw [bs_size,bs_size];omega
 have happ:=hid (bs_append (num x.toNat) (num y.toNat))
 unfold dotB dv
 dsimp only
 clear h1 h2 h3 h4 l1 l2 hc
 generalize bs (num x.toNat)=X at *
 generalize bs (num y.toNat)=Y at *
 have hst:=qh ((w.alloc (.cells #[.int .i64 x,.int .i64 y] 28)).drew.cell? ⟨w.heap.size,0,none⟩=some (.int .i64 x)∧(w.alloc (.cells #[.int .i64 x,.int .i64 y] 28)).drew.cell? ⟨w.heap.size,1,none⟩=some (.int .i64 y)∧Pure w (w.alloc (.cells #[.int .i64 x,.int .i64 y] 28)).drew) (⟨by simp,by simp,qp.drew⟩)
 have hkeep:Hid (∀W W' : World,Pure W W'→(W.cell? ⟨w.heap.size,0,none⟩=some (.int .i64 x)∧W.cell? ⟨w.heap.size,1,none⟩=some (.int .i64 y)∧Pure w W)→(W'.cell? ⟨w.heap.size,0,none⟩=some (.int .i64 x)∧W'.cell? ⟨w.heap.size,1,none⟩=some (.int .i64 y)∧Pure w W')):=fun W W' hp ⟨a,b,c⟩ =>
  ⟨(hp.cell (World.block_lt_of_cell? W _ a)).trans a,(hp.cell (World.block_lt_of_cell? W _ b)).trans b,c.then_ hp⟩
 go_enter Tryz.func131,Tryz.ntmps131
 go_wp2_with fail
 go_region_held3 (fun W=>W.cell? ⟨w.heap.size,0,none⟩=some (.int .i64 x)∧W.cell? ⟨w.heap.size,1,none⟩=some (.int .i64 y)∧Pure w W)
  (first|exact hst.out|exact hkeep.out _ _ qa qa)
  (first
    | (go_at_call 61;refine (hx.out _).mono ?_;rintro e w1 ⟨rfl,hp1⟩)
    | (go_at_call 61;refine (hy.out _).mono ?_;rintro e w1 ⟨rfl,hp1⟩))
 have hx':=qh (w1.cell? ⟨w.heap.size,0,none⟩=some (.int .i64 x)∧w1.cell? ⟨w.heap.size,1,none⟩=some (.int .i64 y)∧Pure w w1) (by assumption)
 go_wp2
 go_ret
 exact ⟨congrArg (fun z=>Ending.returned (.string z)) happ.out,hx'.out.2.2⟩
end
section
set_option maxHeartbeats 1000000
set_option maxRecDepth 8000
open Go.RowKit Go.Maps
theorem rowB_take (l:List Dot) (k:Nat) (h:k<l.length):(num l.length++(l.take (k+1)).flatMap dotB)=(num l.length++(l.take k).flatMap dotB)++dotB (l.getD k (0,0)):=by
 rw [tsd l k h];simp
theorem flatB_len (l:List Dot) (h:∀d ∈ l,Small d):(l.flatMap dotB).length≤20*l.length:=by
 induction l with
 | nil=>simp
 | cons d l ih =>
   have h1:=dotB_len d (h d qb)
   have h2:=ih (fun x hx=>h x (by simp [hx]))
   rw [List.flatMap_cons,List.length_append,List.length_cons];omega
theorem rrow_any (v:Value) (l:List Dot) (w:World) (hr:Dots w v l) (hs:∀d ∈ l,Small d) (hl:l.length≤1000000) :
 Calls Tryz.prog 171 #[v] w fun r w'=>r=.returned (.string (bs (rowB l)))∧Pure w w':=by
 obtain ⟨a,cap,rfl⟩:=hr.shape
 have Hr:=hid hr
 have Hs:=hid hs
 have hi:=hid (rint_any l.length w oe oe)
 unfold rowB
 clear hr hs
 go_enter Tryz.func171,Tryz.ntmps171
 go_wp2_with (go_at_call 61;refine hi.out.mono ?_;rintro e w1 ⟨rfl,hp1⟩;have Hp1:=hid hp1;clear hp1)
 go_loopw [3,4] (fun s i wr=>∃k:Nat,k≤l.length∧i=.int .i64 k∧s=.string (bs (num l.length++(l.take k).flatMap dotB))∧Pure w wr) (fun _ i _=>l.length-(RowKit.intOf i).toNat)
 case atStart=>exact ⟨0,Nat.zero_le _,rfl,by simp,Hp1.out⟩
 case round =>
  obtain ⟨k,hk,rfl,rfl,hp⟩:=hrel
  by_cases hlt:k<l.length
  ·obtain ⟨b,off,rfl,hb,c0,c1⟩:=Dots.get (show Dots wr (.slice a l.length cap) l from Row.pure Hr.out hp) hlt
   have hlt' : (k:Int)<(l.length:Int):=by omega
   have Hstep:=hid (rowB_take l k hlt)
   have hsm:=Hs.out _ (mem_get_d hlt)
   have hb1:=dotB_len _ hsm
   have hb2:((l.take k).flatMap dotB).length≤20000000:=Nat.le_trans (flatB_len (l.take k) (fun d hd=>Hs.out d (List.mem_of_mem_take hd))) (by rw [List.length_take];omega)
   have hb3:=num_len l.length oe
   have hcall:=hid (rdbytes_any (l.getD k (0,0)) wr hsm)
   have Hp:=hid hp
   clear hp hsm
   generalize hze:l.getD k (0,0)=z at *
   obtain ⟨z1,z2⟩:=z
   dsimp only at c0 c1
   have hns:¬9223372036854775807<(bs (num l.length++(l.take k).flatMap dotB)).size+(bs (dotB (z1,z2))).size:=by rw [bs_size,bs_size,List.length_append];omega
   have happ:=hid (bs_append (num l.length++(l.take k).flatMap dotB) (dotB (z1,z2)))
   clear hb1 hb2 hb3 hze
   unfold dv at hcall
   generalize bs (dotB (z1,z2))=Z at *
   generalize hS:bs (num l.length++(l.take k).flatMap dotB)=S at *
   clear hS
   go_wp2_with (go_at_call 131;refine hcall.out.mono ?_;rintro e w2 ⟨rfl,hp2⟩;have Hp2:=hid hp2;clear hp2)
   go_roundw
   case rel=>exact ⟨k+1,by omega,by go_num,by rw [Hstep.out,←happ.out],Hp.out.then_ Hp2.out⟩
   case measure=>simp [RowKit.intOf];omega
  ·have hlt' : ¬(k:Int)<(l.length:Int):=by omega
   have e:l.take k=l:=List.take_of_length_le oe
   rw [e]
   have Hp:=hid hp
   clear hp e
   go_wp2
   go_ret
   exact ⟨rfl,Hp.out⟩
end
section
set_option maxHeartbeats 1000000
open Go.RowKit Go.Maps
theorem infoDot:(Tryz.prog.info? 28).map (fun i=>(i.zero,i.size,i.bytes))=some (some (.agg #[.int .i64 0,.int .i64 0]),2,16):=by kernel_rfl
theorem sizeDot (W:World):(sizeOf 28).run Tryz.prog W=.ok 2 W:=by kernel_rfl
theorem wlad {ops:Array Oper} {rest:List Oper} {o:Oper} {a:Act} {Q:Exit→Act→World→Prop} {w:World} (hgd:o.guard=none) (s x:Operand)
 (ho:o.op=.call { callee:=.builtin .append,args:=#[s,x],argTypes:=#[30,30] }) (base:Nat) (v:Value) (xs:List Dot) (n:Nat) (hs:a.eval s=v)
 (hown:w.ownsRow base 28 2 v n (dvs xs)) (u:Value) (k:List Dot) (m:Nat) (hx:a.eval x=u) (hu:Row w u m 2 (dvs k)) (hlen:n+m≤1000000) (hbase:base≤w.heap.size)
 (h:∀v' w',w'.ownsRow base 28 2 v' (n+m) (dvs (xs++k))→w.grownBy w' v.ownBlock→wpList Tryz.prog ops Q rest (a.put o.dst v') w'):wpList Tryz.prog ops Q (o::rest) a w:=by
 obtain ⟨i0,hi,hz0,hz1,hz2⟩:=ipt infoDot
 exact wlar hgd s x _ ho base 28 i0 (.agg #[.int .i64 0,.int .i64 0]) 2 16 Tryz.underlying30 hi hz0 hz1 hz2 rfl qd qd v n (dvs xs) hs hown u m (dvs k) hx hu (dvs_one k) hlen hbase (fun v' w' q1 q2=>h v' w' (by rw [dvs_append];exact q1) q2)
theorem dots_lit (w:World) (x y:Int):Row (w.alloc (.cells #[.int .i64 x,.int .i64 y] 28)) (.slice (some ⟨w.heap.size,0,none⟩) 1 1) 1 2 (dvs [(x,y)]):=by
 refine ⟨rfl,_,_,rfl,Nat.le_refl _,by unfold maxLen;omega,.inr ⟨_,_,rfl,by simp,fun i hi=>?_⟩⟩
 rw [Nat.zero_add,World.cell?_alloc_new]
 simp [dvs,dcells]
theorem own_plain_d {w:World} {base n:Nat} {v:Value} {xs:List Value} {e s:Nat} (h:w.ownsRow base e s v n xs):∃p c,v=.slice p n c∧(p=none∨∃g o,p=some ⟨g,o,none⟩):=by
 obtain ⟨_,⟨rfl,rfl⟩|⟨g,cap,cur,rfl,_⟩⟩:=h
 ·exact ⟨_,_,rfl,.inl rfl⟩
 ·exact ⟨_,_,rfl,.inr ⟨_,_,rfl⟩⟩
theorem osd {w:World} {base n:Nat} {v:Value} {xs:List Value} {e s:Nat} (h:w.ownsRow base e s v n xs):∃a c,v=.slice a n c:=(Row.of_own h).shape
def dpos (out:List Dot) (d:Dot):Nat→Nat
 | 0=>0
 | k+1=>if dlt d (out.getD k (0,0)) then dpos out d k else k+1
def dins (out:List Dot) (d:Dot):List Dot:=if d ∈ out then out else out.take (dpos out d out.length)++[d]++out.drop (dpos out d out.length)
def dsort (l:List Dot):List Dot:=l.foldl dins []
theorem dpos_le (out:List Dot) (d:Dot):∀k,dpos out d k≤k
 | 0=>Nat.le_refl _
 | k+1=>by unfold dpos;split;exact Nat.le_trans (dpos_le out d k) (Nat.le_succ k);exact Nat.le_refl _
theorem dsort_take (l:List Dot) (k:Nat) (h:k<l.length):dsort (l.take (k+1))=dins (dsort (l.take k)) (l.getD k (0,0)):=by
 rw [tsd l k h];simp [dsort]
theorem dins_len (out:List Dot) (d:Dot):(dins out d).length≤out.length+1:=by
 unfold dins;split
 ·omega
 ·have:=dpos_le out d out.length;simp;omega
theorem dsort_len_take (l:List Dot):∀k,k≤l.length→(dsort (l.take k)).length≤k
 | 0,_=>by simp [dsort]
 | k+1,h=>by
   rw [dsort_take l k oe]
   have:=dins_len (dsort (l.take k)) (l.getD k (0,0))
   have:=dsort_len_take l k oe
   omega
theorem rof_own (v:Value) (l:List Dot) (node:Int) (w:World) (hr:Dots w v l) (hl:l.length≤100000) :
 Calls Tryz.prog 160 #[v,.int .i64 node] w fun r w'=>∃v',r=.returned v'∧w'.ownsRow w.heap.size 28 2 v' (l.filter fun d=>d.1 == node).length (dvs (l.filter fun d=>d.1 == node))∧Pure w w':=by
 obtain ⟨a,cap,rfl⟩:=hr.shape
 have Hr:=hid hr
 clear hr
 go_enter Tryz.func160,Tryz.ntmps160
 go_wp2
 go_loopw [5,6] (fun v i wr=>∃k:Nat,k≤l.length∧i=.int .i64 k∧wr.ownsRow w.heap.size 28 2 v ((l.take k).filter fun d=>d.1 == node).length (dvs ((l.take k).filter fun d=>d.1 == node))∧Pure w wr) (fun _ i _=>l.length-(RowKit.intOf i).toNat)
 case atStart=>exact ⟨0,Nat.zero_le _,rfl,World.ownsRow_nil _ _ _ _,Below.refl _ _⟩
 case round =>
  obtain ⟨k,hk,rfl,hown,hp⟩:=hrel
  by_cases hlt:k<l.length
  ·obtain ⟨b,off,rfl,hb,c0,c1⟩:=Dots.get (show Dots wr (.slice a l.length cap) l from Row.pure Hr.out hp) hlt
   have hlt' : (k:Int)<(l.length:Int):=by omega
   have Hstep:Hid ((l.take (k+1)).filter (fun d=>d.1 == node)=(l.take k).filter (fun d=>d.1 == node)++if (l.getD k (0,0)).1 == node then [l.getD k (0,0)] else []):=by
    show _=_
    rw [tsd l k hlt,List.filter_append];simp [List.filter_cons]
   have hfl:((l.take k).filter fun d=>d.1 == node).length≤100000:=Nat.le_trans (List.length_filter_le _ _) (by rw [List.length_take];omega)
   generalize (l.take k).filter (fun d=>d.1 == node)=Y at *
   obtain ⟨a3,c3,rfl⟩:=osd hown
   have Hown:=hid hown
   have Hp:=hid hp
   clear hown hp
   generalize l.getD k (0,0)=z at *
   obtain ⟨z1,z2⟩:=z
   dsimp only at c0 c1
   by_cases he:z1=node
   ·subst he
    have b1:w.heap.size≤(wr.alloc (.cells #[.int .i64 z1,.int .i64 z2] 28)).heap.size:=by have:=Hp.out.size;simp;omega
    go_wp2_with (at_builtin;refine wlad rfl _ _ rfl w.heap.size _ Y Y.length rfl (Hown.out.alloc _) _ [(z1,z2)] 1 rfl (dots_lit wr z1 z2) oe b1 ?_)
    intro v2 w2 hown2 hg2
    have Hown2:=hid hown2
    have Hg2:=hid ((Hp.out.alloc Hp.out.size _).grown hg2 (by have:=Hp.out.size;simp;omega) (fun k hk=>(Hown.out.lt k hk).1))
    clear hown2 hg2
    go_wp2
    go_roundw
    case rel=>exact ⟨k+1,by omega,by go_num,by rw [Hstep.out];simpa using Hown2.out,Hg2.out⟩
    case measure=>simp [RowKit.intOf];omega
   ·have he' : (z1 == node)=false:=by simp [he]
    go_wp2
    go_roundw
    case rel=>exact ⟨k+1,by omega,by go_num,by rw [Hstep.out];simp only [he',Bool.false_eq_true,if_false,List.append_nil];exact Hown.out,Hp.out⟩
    case measure=>simp [RowKit.intOf];omega
  ·have hlt' : ¬(k:Int)<(l.length:Int):=by omega
   have e:l.take k=l:=List.take_of_length_le oe
   rw [e] at hown
   obtain ⟨a3,c3,rfl⟩:=osd hown
   have Hown:=hid hown
   have Hp:=hid hp
   clear hp hown e
   go_wp2
   go_ret
   exact ⟨_,rfl,Hown.out,Hp.out⟩
theorem rof_any (v:Value) (l:List Dot) (node:Int) (w:World) (hr:Dots w v l) (hl:l.length≤100000) :
 Calls Tryz.prog 160 #[v,.int .i64 node] w fun r w'=>∃v',r=.returned v'∧Dots w' v' (l.filter fun d=>d.1 == node)∧Pure w w' :=
 (rof_own v l node w hr hl).mono fun _ _ ⟨v',he,h,hp⟩=>⟨v',he,Row.of_own h,hp⟩
end
section
set_option maxHeartbeats 4000000
open Go.RowKit Go.Maps
theorem dvs_take:∀(l:List Dot) (k:Nat),dvs (l.take k)=(dvs l).take (k*2)
 | [],k=>by simp [dvs]
 | d::l,0=>by simp [dvs]
 | d::l,k+1=>by
   have ih:=dvs_take l k
   have e:dvs (d::l)=.int .i64 d.1 :: .int .i64 d.2::dvs l:=rfl
   have e2:dvs (d::l.take k)=.int .i64 d.1 :: .int .i64 d.2::dvs (l.take k):=rfl
   rw [List.take_succ_cons,e2,e,show (k+1)*2=k*2+1+1 by omega,List.take_succ_cons,List.take_succ_cons,ih]
theorem dvs_drop:∀(l:List Dot) (k:Nat),dvs (l.drop k)=(dvs l).drop (k*2)
 | [],k=>by simp [dvs]
 | d::l,0=>by simp [dvs]
 | d::l,k+1=>by
   have ih:=dvs_drop l k
   have e:dvs (d::l)=.int .i64 d.1 :: .int .i64 d.2::dvs l:=rfl
   rw [List.drop_succ_cons,e,show (k+1)*2=k*2+1+1 by omega,List.drop_succ_cons,List.drop_succ_cons,ih]
theorem own_pure {w w' : World} {base n e s:Nat} {v:Value} {xs:List Value} (h:w.ownsRow base e s v n xs) (hp:Pure w w'):w'.ownsRow base e s v n xs:=by
 obtain ⟨hl,h|⟨g,cap,cur,rfl,hb,hg,r⟩⟩:=h
 ·exact ⟨hl,.inl h⟩
 ·exact ⟨hl,.inr ⟨g,cap,cur,rfl,hb,(hp.block g (lob hg)).trans hg,r⟩⟩
theorem rsort_any (v:Value) (l:List Dot) (w:World) (hr:Dots w v l) (hl:l.length≤100000) :
 Calls Tryz.prog 159 #[v] w fun r w'=>∃v',r=.returned v'∧w'.ownsRow w.heap.size 28 2 v' (dsort l).length (dvs (dsort l))∧Pure w w':=by
 obtain ⟨a,cap,rfl⟩:=hr.shape
 have Hr:=hid hr
 clear hr
 go_enter Tryz.func159,Tryz.ntmps159
 go_wp2
 go_loopw [3,4] (fun v i wr=>∃k:Nat,k≤l.length∧i=.int .i64 k∧wr.ownsRow w.heap.size 28 2 v (dsort (l.take k)).length (dvs (dsort (l.take k)))∧Pure w wr) (fun _ i _=>l.length-(RowKit.intOf i).toNat)
 case atStart=>exact ⟨0,Nat.zero_le _,rfl,World.ownsRow_nil _ _ _ _,Below.refl _ _⟩
 case round =>
  obtain ⟨k,hk,rfl,hown,hb⟩:=hrel
  by_cases hlt:k<l.length
  ·obtain ⟨bo,oo,rfl,hbo,c0,c1⟩:=Dots.get (show Dots wr (.slice a l.length cap) l from Row.pure Hr.out hb) hlt
   have hlt' : (k:Int)<(l.length:Int):=by omega
   have Hstep:=hid (dsort_take l k hlt)
   have hfl:=dsort_len_take l k oe
   have hh:=hid (fun W (hW:Pure wr W)=>rdhas_any _ (dsort (l.take k)) (l.getD k (0,0)) W (show Dots W _ _ from Row.pure (Row.of_own hown) hW))
   obtain ⟨wo,rfl⟩ : ∃wo:World,wo=wr:=⟨_,rfl⟩
   generalize dsort (l.take k)=Y at *
   obtain ⟨a3,c3,rfl⟩:=osd hown
   have HIY:Hid (∀W,Pure wo W→Row W (.slice a3 Y.length c3) Y.length 2 (dvs Y)):=fun W hW=>Row.pure (Row.of_own hown) hW
   have Hpl:Hid (a3=none∨∃b o,a3=some ⟨b,o,none⟩):=by
    obtain ⟨p,c,e,h⟩:=own_plain_d hown;cases e;exact h
   have Hown:=hid hown
   have Hb:=hid hb
   clear hown hb
   generalize l.getD k (0,0)=z at *
   obtain ⟨z1,z2⟩:=z
   dsimp only at c0 c1
   unfold dv at hh
   by_cases hm:(z1,z2) ∈ Y
   ·have Hm:=hid hm
    have hh':=hid (fun W hW=>(show Calls _ _ _ _ _ from by have:=hh.out W hW;rw [decide_eq_true hm] at this;exact this))
    clear hm
    go_wp2_with (go_at_call 158;refine (hh'.out _ (Below.refl _ _)).mono ?_;rintro e w2 ⟨rfl,hp2⟩;have Hp2:=hid hp2;clear hp2)
    go_roundw
    case rel=>exact ⟨k+1,by omega,by go_num,by rw [Hstep.out];unfold dins;rw [if_pos Hm.out];exact own_pure Hown.out Hp2.out,Hb.out.then_ Hp2.out⟩
    case measure=>simp [RowKit.intOf];omega
   ·have Hnin:=hid hm
    have hh':=hid (fun W hW=>(show Calls _ _ _ _ _ from by have:=hh.out W hW;rw [decide_eq_false hm] at this;exact this))
    clear hm
    go_wp2_with (go_at_call 158;refine (hh'.out _ (Below.refl _ _)).mono ?_;rintro e w2 ⟨rfl,hp2⟩;have Hp2:=hid hp2;clear hp2)
    go_loopw [6] (fun kk wq=>∃j:Nat,j≤Y.length∧kk=.int .i64 j∧dpos Y (z1,z2) j=dpos Y (z1,z2) Y.length∧Pure wo wq) (fun kk _=>(RowKit.intOf kk).toNat)
    case atStart=>exact ⟨Y.length,Nat.le_refl _,rfl,rfl,Hp2.out⟩
    case round =>
     obtain ⟨j,hj,rfl,hd,hpq⟩:=hrel
     have Hpq:=hid hpq
     have d0:wr.cell? ⟨bo,oo+k*2,none⟩=some (.int .i64 z1):=(hpq.cell hbo).trans c0
     have d1:wr.cell? ⟨bo,oo+k*2+1,none⟩=some (.int .i64 z2):=(hpq.cell hbo).trans c1
     have Hcx:=hid (And.intro d0 d1)
     have hbo:bo<wr.heap.size:=Nat.lt_of_lt_of_le hbo hpq.size
     clear hpq
     cases j with
     | zero =>
       have Hd:=qh (0=dpos Y (z1,z2) Y.length) (hd)
       clear hd
       have hij:0≤Y.length:=hj
       obtain ⟨v1,hv1,hi1⟩:=slice_pre_row Tryz.underlying30 (HIY.out _ Hpq.out) hij Hpl.out sizeDot
       obtain ⟨v2,hv2,hi2⟩:=slice_suf_row Tryz.underlying30 (HIY.out _ Hpq.out) hij Hpl.out sizeDot
       have Hi1:Hid (∀W,Pure wr W→Row W v1 (0) 2 (dvs (Y.take (0)))):=fun W hW=>by rw [dvs_take];exact hi1 W (HIY.out W (Hpq.out.then_ hW))
       have Hi2:Hid (∀W,Pure wr W→Row W v2 (Y.length-(0)) 2 (dvs (Y.drop (0)))):=fun W hW=>by rw [dvs_drop];exact hi2 W (HIY.out W (Hpq.out.then_ hW))
       have hfinish:Hid (∀(wE:World) (v3:Value),wE.ownsRow wr.heap.size 28 2 v3 (0+1+(Y.length-(0))) (dvs (Y.take (0)++[(z1,z2)]++Y.drop (0)))→wE.ownsRow w.heap.size 28 2 v3 (dsort (l.take (k+1))).length (dvs (dsort (l.take (k+1))))):=fun wE v3 h=>by
        have e:dsort (l.take (k+1))=Y.take (0)++[(z1,z2)]++Y.drop (0):=by
         rw [Hstep.out];unfold dins;rw [if_neg Hnin.out,←Hd.out]
        have e2:(Y.take (0)++[(z1,z2)]++Y.drop (0)).length=0+1+(Y.length-(0)):=by simp;omega
        rw [e,e2]
        exact own_mono h (by have:=Hb.out.size;have:=Hpq.out.size;omega)
       clear hi1 hi2
       have hv1:∀W,(Instr.slice 30 (.slice a3 Y.length c3) none (some (.int .i64 (0))) none).run Tryz.prog W=.ok v1 W:=hv1
       have hv2:∀W,(Instr.slice 30 (.slice a3 Y.length c3) (some (.int .i64 (0))) none none).run Tryz.prog W=.ok v2 W:=hv2
       generalize Value.slice a3 Y.length c3=V at hv1 hv2 ⊢
       go_wp2_with (at_builtin;refine wlad rfl _ _ rfl wr.heap.size (.slice none 0 0) [] 0 rfl (World.ownsRow_nil _ _ _ _) _ (Y.take (0)) (0) rfl (Hi1.out _ (Below.refl _ _)) oe (Nat.le_refl _) ?_)
       intro v3 w3 hown3 hg3
       have Hown3:=hid (show w3.ownsRow wr.heap.size 28 2 v3 (0) (dvs (Y.take (0))) by simpa using hown3)
       have Hg3:=qh (Pure wr w3) ((Below.refl _ _).grown hg3 (Nat.le_refl _) (fun k hk=>by simp [Value.ownBlock] at hk))
       obtain ⟨a4,c4,rfl⟩:=osd Hown3.out
       clear hown3 hg3
       have qx:w3.cell? ⟨bo,oo+k*2,none⟩=some (.int .i64 z1):=(Hg3.out.cell hbo).trans Hcx.out.1
       have qy:w3.cell? ⟨bo,oo+k*2+1,none⟩=some (.int .i64 z2):=(Hg3.out.cell hbo).trans Hcx.out.2
       have b1:wr.heap.size≤(w3.alloc (.cells #[.int .i64 z1,.int .i64 z2] 28)).heap.size:=by have:=Hg3.out.size;simp;omega
       clear c0 c1
       go_wp2_with (at_builtin;refine wlad rfl _ _ rfl wr.heap.size _ (Y.take (0)) (0) rfl (Hown3.out.alloc _) _ [(z1,z2)] 1 rfl (dots_lit w3 z1 z2) oe b1 ?_)
       intro v4 w4 hown4 hg4
       have Hown4:=hid hown4
       have Hg4:=qh (Pure wr w4) ((Hg3.out.alloc Hg3.out.size _).grown hg4 (by have:=Hg3.out.size;simp;omega) (fun k hk=>(Hown3.out.lt k hk).1))
       have Hi2':=hid (Hi2.out _ Hg4.out)
       obtain ⟨a5,c5,rfl⟩:=osd Hown4.out
       clear hown4 hg4 b1
       go_wp2_with (at_builtin;refine wlad rfl _ _ rfl wr.heap.size _ (Y.take (0)++[(z1,z2)]) (0+1) rfl Hown4.out _ (Y.drop (0)) (Y.length-(0)) rfl Hi2'.out oe Hg4.out.size ?_)
       intro v5 w5 hown5 hg5
       have Hown5:=hid hown5
       have Hg5:=hid (Hg4.out.grown hg5 Hg4.out.size (fun k hk=>(Hown4.out.lt k hk).1))
       obtain ⟨a6,c6,rfl⟩:=osd Hown5.out
       clear hown5 hg5
       go_wp2
       go_roundw
       case rel=>exact ⟨k+1,by omega,by go_num,hfinish.out _ _ Hown5.out,(Hb.out.then_ Hpq.out).then_ Hg5.out⟩
       case measure=>simp [RowKit.intOf];omega
     | succ i =>
       obtain ⟨bb,ob,rfl,hbb,e0,e1⟩:=Dots.get (show Dots wr (.slice a3 Y.length c3) Y from HIY.out _ Hpq.out) (show i<Y.length by omega)
       have h1:((i:Int)+1)-1=i:=by omega
       have h2:(0:Int)<(i:Int)+1:=by omega
       have h3:(i:Int)<(Y.length:Int):=by omega
       have h4:(0:Int)≤(i:Int):=by omega
       have h5:IntKind.i64.wrap ((i:Int)+1-1)=(i:Int):=by rw [IntWalk.i64_in _ oe];omega
       have h6:IntKind.i64.wrap (i:Int)=(i:Int):=IntWalk.i64_in _ oe
       have h7:(i:Int)≤(Y.length:Int):=by omega
       have h8:(0:Int)≤(k:Int):=by omega
       obtain ⟨y,hy⟩:=qe (Y.getD i (0,0))
       have Hdp:=hid (show dpos Y (z1,z2) (i+1)=if dlt (z1,z2) y then dpos Y (z1,z2) i else i+1 by rw [hy];rfl)
       rw [←hy] at e0 e1
       have Hd0:=hid hd
       clear hd hy c0 c1
       obtain ⟨y1,y2⟩:=y
       dsimp only at e0 e1
       have hless:=hid (fun W=>rless_any (z1,z2) (y1,y2) W)
       unfold dv at hless
       dsimp only at hless
       have hst:=qh (wr.drew.cell? ⟨bo,oo+k*2,none⟩=some (.int .i64 z1)∧wr.drew.cell? ⟨bo,oo+k*2+1,none⟩=some (.int .i64 z2)∧wr.drew.cell? ⟨bb,ob+i*2,none⟩=some (.int .i64 y1)∧wr.drew.cell? ⟨bb,ob+i*2+1,none⟩=some (.int .i64 y2)∧Pure wo wr.drew) (⟨d0,d1,e0,e1,Hpq.out.then_ qv⟩)
       have hkeep:Hid (∀W W' : World,Pure W W'→(W.cell? ⟨bo,oo+k*2,none⟩=some (.int .i64 z1)∧W.cell? ⟨bo,oo+k*2+1,none⟩=some (.int .i64 z2)∧W.cell? ⟨bb,ob+i*2,none⟩=some (.int .i64 y1)∧W.cell? ⟨bb,ob+i*2+1,none⟩=some (.int .i64 y2)∧Pure wo W) →
        (W'.cell? ⟨bo,oo+k*2,none⟩=some (.int .i64 z1)∧W'.cell? ⟨bo,oo+k*2+1,none⟩=some (.int .i64 z2)∧W'.cell? ⟨bb,ob+i*2,none⟩=some (.int .i64 y1)∧W'.cell? ⟨bb,ob+i*2+1,none⟩=some (.int .i64 y2)∧Pure wo W')):=fun W W' hp ⟨a,b,c,d,e⟩ =>
        ⟨(hp.cell (World.block_lt_of_cell? W _ a)).trans a,(hp.cell (World.block_lt_of_cell? W _ b)).trans b,(hp.cell (World.block_lt_of_cell? W _ c)).trans c,(hp.cell (World.block_lt_of_cell? W _ d)).trans d,e.then_ hp⟩
       generalize hL:dlt (z1,z2) (y1,y2)=L at *
       clear hL
       go_wp2_with fail
       go_region_held3 (fun W=>W.cell? ⟨bo,oo+k*2,none⟩=some (.int .i64 z1)∧W.cell? ⟨bo,oo+k*2+1,none⟩=some (.int .i64 z2)∧W.cell? ⟨bb,ob+i*2,none⟩=some (.int .i64 y1)∧W.cell? ⟨bb,ob+i*2+1,none⟩=some (.int .i64 y2)∧Pure wo W)
        (first|exact hst.out|exact hkeep.out _ _ qa qa)
        (first|(go_at_call 163;refine (hless.out _).mono ?_;rintro e w7 ⟨rfl,hp7⟩))
       have hx7:w7.cell? ⟨bo,oo+k*2,none⟩=some (.int .i64 z1)∧w7.cell? ⟨bo,oo+k*2+1,none⟩=some (.int .i64 z2)∧w7.cell? ⟨bb,ob+i*2,none⟩=some (.int .i64 y1)∧w7.cell? ⟨bb,ob+i*2+1,none⟩=some (.int .i64 y2)∧Pure wo w7:=by assumption
       have Hp7:=hid hx7.2.2.2.2
       have Hcx7:=hid (And.intro hx7.1 hx7.2.1)
       clear hx7 hp7 e0 e1 d0 d1 Hcx
       have Hcx:=Hcx7
       have c0:=Hcx.out.1
       have c1:=Hcx.out.2
       have hbo:bo<w7.heap.size:=World.block_lt_of_cell? w7 _ c0
       cases L with
       | true =>
         have Hdd:=hid (show dpos Y (z1,z2) i=dpos Y (z1,z2) Y.length by rw [←Hd0.out,Hdp.out];rfl)
         go_wp2
         go_roundw
         case rel=>exact ⟨i,by omega,by go_num,Hdd.out,Hp7.out⟩
         case measure=>simp [RowKit.intOf]
       | false =>
         have Hd:=hid (show i+1=dpos Y (z1,z2) Y.length by rw [←Hd0.out,Hdp.out];rfl)
         have hij:i+1≤Y.length:=hj
         obtain ⟨v1,hv1,hi1⟩:=slice_pre_row Tryz.underlying30 (HIY.out _ Hp7.out) hij Hpl.out sizeDot
         obtain ⟨v2,hv2,hi2⟩:=slice_suf_row Tryz.underlying30 (HIY.out _ Hp7.out) hij Hpl.out sizeDot
         have Hi1:Hid (∀W,Pure w7 W→Row W v1 (i+1) 2 (dvs (Y.take (i+1)))):=fun W hW=>by rw [dvs_take];exact hi1 W (HIY.out W (Hp7.out.then_ hW))
         have Hi2:Hid (∀W,Pure w7 W→Row W v2 (Y.length-(i+1)) 2 (dvs (Y.drop (i+1)))):=fun W hW=>by rw [dvs_drop];exact hi2 W (HIY.out W (Hp7.out.then_ hW))
         have hfinish:Hid (∀(wE:World) (v3:Value),wE.ownsRow w7.heap.size 28 2 v3 (i+1+1+(Y.length-(i+1))) (dvs (Y.take (i+1)++[(z1,z2)]++Y.drop (i+1)))→wE.ownsRow w.heap.size 28 2 v3 (dsort (l.take (k+1))).length (dvs (dsort (l.take (k+1))))):=fun wE v3 h=>by
          have e:dsort (l.take (k+1))=Y.take (i+1)++[(z1,z2)]++Y.drop (i+1):=by
           rw [Hstep.out];unfold dins;rw [if_neg Hnin.out,←Hd.out]
          have e2:(Y.take (i+1)++[(z1,z2)]++Y.drop (i+1)).length=i+1+1+(Y.length-(i+1)):=by simp;omega
          rw [e,e2]
          exact own_mono h (by have:=Hb.out.size;have:=Hp7.out.size;omega)
         clear hi1 hi2
         have hv1:∀W,(Instr.slice 30 (.slice (some ⟨bb,ob,none⟩) Y.length c3) none (some (.int .i64 ((i:Int)+1))) none).run Tryz.prog W=.ok v1 W:=hv1
         have hv2:∀W,(Instr.slice 30 (.slice (some ⟨bb,ob,none⟩) Y.length c3) (some (.int .i64 ((i:Int)+1))) none none).run Tryz.prog W=.ok v2 W:=hv2
         generalize Value.slice (some ⟨bb,ob,none⟩) Y.length c3=V at hv1 hv2 ⊢
         go_wp2_with (at_builtin;refine wlad rfl _ _ rfl w7.heap.size (.slice none 0 0) [] 0 rfl (World.ownsRow_nil _ _ _ _) _ (Y.take (i+1)) (i+1) rfl (Hi1.out _ (Below.refl _ _)) oe (Nat.le_refl _) ?_)
         intro v3 w3 hown3 hg3
         have Hown3:=hid (show w3.ownsRow w7.heap.size 28 2 v3 (i+1) (dvs (Y.take (i+1))) by simpa using hown3)
         have Hg3:=qh (Pure w7 w3) ((Below.refl _ _).grown hg3 (Nat.le_refl _) (fun k hk=>by simp [Value.ownBlock] at hk))
         obtain ⟨a4,c4,rfl⟩:=osd Hown3.out
         clear hown3 hg3
         have qx:w3.cell? ⟨bo,oo+k*2,none⟩=some (.int .i64 z1):=(Hg3.out.cell hbo).trans Hcx.out.1
         have qy:w3.cell? ⟨bo,oo+k*2+1,none⟩=some (.int .i64 z2):=(Hg3.out.cell hbo).trans Hcx.out.2
         have b1:w7.heap.size≤(w3.alloc (.cells #[.int .i64 z1,.int .i64 z2] 28)).heap.size:=by have:=Hg3.out.size;simp;omega
         clear c0 c1
         go_wp2_with (at_builtin;refine wlad rfl _ _ rfl w7.heap.size _ (Y.take (i+1)) (i+1) rfl (Hown3.out.alloc _) _ [(z1,z2)] 1 rfl (dots_lit w3 z1 z2) oe b1 ?_)
         intro v4 w4 hown4 hg4
         have Hown4:=hid hown4
         have Hg4:=qh (Pure w7 w4) ((Hg3.out.alloc Hg3.out.size _).grown hg4 (by have:=Hg3.out.size;simp;omega) (fun k hk=>(Hown3.out.lt k hk).1))
         have Hi2':=hid (Hi2.out _ Hg4.out)
         obtain ⟨a5,c5,rfl⟩:=osd Hown4.out
         clear hown4 hg4 b1
         go_wp2_with (at_builtin;refine wlad rfl _ _ rfl w7.heap.size _ (Y.take (i+1)++[(z1,z2)]) (i+1+1) rfl Hown4.out _ (Y.drop (i+1)) (Y.length-(i+1)) rfl Hi2'.out oe Hg4.out.size ?_)
         intro v5 w5 hown5 hg5
         have Hown5:=hid hown5
         have Hg5:=hid (Hg4.out.grown hg5 Hg4.out.size (fun k hk=>(Hown4.out.lt k hk).1))
         obtain ⟨a6,c6,rfl⟩:=osd Hown5.out
         clear hown5 hg5
         go_wp2
         go_roundw
         case rel=>exact ⟨k+1,by omega,by go_num,hfinish.out _ _ (by rw [List.append_assoc];exact Hown5.out),(Hb.out.then_ Hp7.out).then_ Hg5.out⟩
         case measure=>simp [RowKit.intOf];omega
  ·have hlt' : ¬(k:Int)<(l.length:Int):=by omega
   have e:l.take k=l:=List.take_of_length_le oe
   rw [e] at hown
   obtain ⟨a3,c3,rfl⟩:=osd hown
   have Hown:=hid hown
   have Hp:=hid hb
   clear hb hown e
   go_wp2
   go_ret
   exact ⟨_,rfl,Hown.out,Hp.out⟩
end
end Go.Proofs.YtdlpnhfgjficgaaGreat
