import Derived.Test.YtdlpnhfgjficgaaGreatMCm
namespace Go.Proofs.YtdlpnhfgjficgaaGreat
section
set_option maxHeartbeats 2000000
set_option maxRecDepth 8000
open Go.RowKit Go.Maps
abbrev Msg:=Dot × List UInt8 × List UInt8 × Int
def mcells (m:Msg):List Value:=[.int .i64 m.1.1,.int .i64 m.1.2,.string (bs m.2.1),.string (bs m.2.2.1),.int .i64 m.2.2.2]
def mvs (l:List Msg):List Value:=l.flatMap mcells
def Msgs (w:World) (v:Value) (l:List Msg):Prop:=Row w v l.length 5 (mvs l)
def mv (m:Msg):Value:=.agg #[.int .i64 m.1.1,.int .i64 m.1.2,.string (bs m.2.1),.string (bs m.2.2.1),.int .i64 m.2.2.2]
def m0:Msg:=((0,0),[],[],0)
theorem mvs_len (l:List Msg):(mvs l).length=l.length*5:=by
 induction l with
 | nil=>rfl
 | cons d l ih=>simp [mvs,mcells] at *;omega
theorem mvs_append (l k:List Msg):mvs (l++k)=mvs l++mvs k:=by simp [mvs]
theorem mvs_get:∀(l:List Msg) (k:Nat),k<l.length→∀j,j<5→(mvs l)[k*5+j]?=(mcells (l.getD k m0))[j]?
 | [],k,h,_,_=>absurd h (Nat.not_lt_zero _)
 | d::l,0,_,j,hj=>by
   have e:mvs (d::l)=mcells d++mvs l:=rfl
   rw [e,List.getElem?_append_left (by simp [mcells];omega)]
   simp [List.getD]
 | d::l,k+1,h,j,hj=>by
   have ih:=mvs_get l k (by simpa using h) j hj
   have e:mvs (d::l)=mcells d++mvs l:=rfl
   have hl:(mcells d).length=5:=rfl
   rw [e,List.getElem?_append_right (by rw [hl];omega),hl,show (k+1)*5+j-5=k*5+j by omega,ih]
   simp [List.getD]
theorem mvs_one (l:List Msg):∀u ∈ mvs l,u.oneCell'=true:=by
 intro u hu
 simp only [mvs,List.mem_flatMap,mcells] at hu
 obtain ⟨d,_,hd⟩:=hu
 simp at hd
 rcases hd with rfl|rfl|rfl|rfl|rfl <;> rfl
theorem Msgs.shape {w:World} {v:Value} {l:List Msg} (h:Msgs w v l):∃a cap,v=.slice a l.length cap:=Row.shape h
theorem Msgs.get {w:World} {a:Option Addr} {n cap:Nat} {l:List Msg} (h:Msgs w (.slice a n cap) l) {k:Nat} (hk:k<l.length) :
 ∃b off,a=some ⟨b,off,none⟩∧b<w.heap.size∧w.cell? ⟨b,off+k*5,none⟩=some (.int .i64 (l.getD k m0).1.1)∧w.cell? ⟨b,off+k*5+1,none⟩=some (.int .i64 (l.getD k m0).1.2)∧w.cell? ⟨b,off+k*5+2,none⟩=some (.string (bs (l.getD k m0).2.1))∧w.cell? ⟨b,off+k*5+3,none⟩=some (.string (bs (l.getD k m0).2.2.1))∧w.cell? ⟨b,off+k*5+4,none⟩=some (.int .i64 (l.getD k m0).2.2.2):=by
 have e:n=l.length:=by obtain ⟨a',c',e⟩:=h.shape;injection e
 subst e
 obtain ⟨b,off,e,hb,hc⟩:=Row.elem h hk
 have g:=mvs_get l k hk
 exact ⟨b,off,e,hb,(hc 0 oe).trans (g 0 oe),(hc 1 oe).trans (g 1 oe),(hc 2 oe).trans (g 2 oe),(hc 3 oe).trans (g 3 oe),(hc 4 oe).trans (g 4 oe)⟩
theorem take_succ_m (l:List Msg) (k:Nat) (h:k<l.length):l.take (k+1)=l.take k++[l.getD k m0]:=by
 rw [List.take_succ_eq_append_getElem h];simp [List.getD,h]
theorem mem_get_m {l:List Msg} {k:Nat} (h:k<l.length):l.getD k m0 ∈ l:=by simp [List.getD,h]
def mmay (m:Msg):Bool:=dchk m.1 && decide (1≤m.2.1.length) && decide (m.2.1.length≤40) && decide (m.2.2.1.length≤1000) && decide (0≤m.2.2.2) && decide (m.2.2.2≤1048576)
theorem rmay_any (m:Msg) (w:World) :
 Calls Tryz.prog 101 #[mv m] w fun e w'=>e=.returned (.bool (mmay m))∧Pure w w':=by
 obtain ⟨⟨x,y⟩,q,b,c⟩:=m
 have hc:=hid (fun W=>rchk_any (x,y) W)
 have hq:=bs_size q
 have hb:=bs_size b
 unfold mmay mv
 unfold dv at *
 dsimp only at *
 rw [←hq,←hb]
 generalize dchk (x,y)=I at *
 generalize bs q=Q at *
 generalize bs b=B at *
 clear hq hb
 obtain ⟨wz,hwz⟩:=qe (w.alloc (.cells #[.int .i64 x,.int .i64 y,.string Q,.string B,.int .i64 c] 43))
 have Hwz:=qh (Pure w wz) (by rw [hwz];exact qp)
 have b0:wz.heap[w.heap.size]?=some (.cells #[.int .i64 x,.int .i64 y,.string Q,.string B,.int .i64 c] 43 (0,0)):=by rw [hwz];exact ban _ _
 have hS:Hid (∀W,Pure wz W→(W.cell? ⟨w.heap.size,2,none⟩=some (.string Q)∧W.cell? ⟨w.heap.size,3,none⟩=some (.string B)∧W.cell? ⟨w.heap.size,4,none⟩=some (.int .i64 c)∧Pure w W)):=fun W hW=>by
  have e0:=(hW.block _ (lob b0)).trans b0
  exact ⟨cob e0 2,cob e0 3,cob e0 4,Hwz.out.then_ hW⟩
 clear b0
 go_enter Tryz.func101,Tryz.ntmps101
 go_wp2_with fail
 rw [←hwz]
 clear hwz
 refine (hc.out wz).mono ?_
 rintro e w1 ⟨rfl,hp1⟩
 obtain ⟨f0,f1,f2,hp⟩:=hS.out w1 hp1
 have Hp:=hid hp
 clear hp1 hp
 cases I with
 | false =>
   go_wp2
   go_ret
   exact ⟨rfl,Hp.out⟩
 | true =>
   by_cases h1:1≤Q.size
   ·by_cases h2:Q.size≤40
    ·by_cases h3:B.size≤1000
     ·by_cases h4:0≤c
      ·go_wp2
       go_ret
       exact ⟨ret_bool (by simp [h1,h2,h3,h4]),Hp.out⟩
      ·go_wp2
       go_ret
       exact ⟨ret_bool (by simp;try omega),Hp.out⟩
     ·go_wp2
      go_ret
      exact ⟨ret_bool (by simp;try omega),Hp.out⟩
    ·go_wp2
     go_ret
     exact ⟨ret_bool (by simp;try omega),Hp.out⟩
   ·go_wp2
    go_ret
    exact ⟨ret_bool (by simp;try omega),Hp.out⟩
end
section
set_option maxHeartbeats 4000000
set_option maxRecDepth 8000
open Go.RowKit Go.Maps
theorem infoMsg:(Tryz.prog.info? 43).map (fun i=>(i.zero,i.size,i.bytes))=some (some (.agg #[.int .i64 0,.int .i64 0,.string ⟨#[]⟩,.string ⟨#[]⟩,.int .i64 0]),5,56):=by kernel_rfl
theorem sizeMsg (W:World):(sizeOf 43).run Tryz.prog W=.ok 5 W:=by kernel_rfl
theorem wpList_append_msgs {ops:Array Oper} {rest:List Oper} {o:Oper} {a:Act} {Q:Exit→Act→World→Prop} {w:World} (hgd:o.guard=none) (s x:Operand)
 (ho:o.op=.call { callee:=.builtin .append,args:=#[s,x],argTypes:=#[29,29] }) (base:Nat) (v:Value) (xs:List Msg) (n:Nat) (hs:a.eval s=v)
 (hown:w.ownsRow base 43 5 v n (mvs xs)) (u:Value) (k:List Msg) (m:Nat) (hx:a.eval x=u) (hu:Row w u m 5 (mvs k)) (hlen:n+m≤1000000) (hbase:base≤w.heap.size)
 (h:∀v' w',w'.ownsRow base 43 5 v' (n+m) (mvs (xs++k))→w.grownBy w' v.ownBlock→wpList Tryz.prog ops Q rest (a.put o.dst v') w'):wpList Tryz.prog ops Q (o::rest) a w:=by
 obtain ⟨i0,hi,hz0,hz1,hz2⟩:=ipt infoMsg
 exact wlar hgd s x _ ho base 43 i0 _ 5 56 Tryz.underlying29 hi hz0 hz1 hz2 rfl qd qd v n (mvs xs) hs hown u m (mvs k) hx hu (mvs_one k) hlen hbase (fun v' w' q1 q2=>h v' w' (by rw [mvs_append];exact q1) q2)
theorem msgs_lit (w:World) (m:Msg):Row (w.alloc (.cells #[.int .i64 m.1.1,.int .i64 m.1.2,.string (bs m.2.1),.string (bs m.2.2.1),.int .i64 m.2.2.2] 43)) (.slice (some ⟨w.heap.size,0,none⟩) 1 1) 1 5 (mvs [m]):=by
 refine ⟨rfl,_,_,rfl,Nat.le_refl _,by unfold maxLen;omega,.inr ⟨_,_,rfl,by simp,fun i hi=>?_⟩⟩
 rw [Nat.zero_add,World.cell?_alloc_new]
 simp [mvs,mcells]
def mof (l:List Msg) (d:Dot):List Msg:=l.filter fun m=>decide (m.1=d)
def msort (l:List Msg):List Msg:=(dsort (l.map (·.1))).flatMap (mof l)
theorem mof_len (l:List Msg) (d:Dot):(mof l d).length≤l.length:=List.length_filter_le _ _
theorem mof_take (l:List Msg) (d:Dot) (k:Nat) (h:k<l.length):mof (l.take (k+1)) d=mof (l.take k) d++if decide ((l.getD k m0).1=d) then [l.getD k m0] else []:=by
 unfold mof;rw [take_succ_m l k h,List.filter_append];simp [List.filter_cons]
theorem flatmof_nd:∀(D:List Dot) (l:List Msg),D.Nodup→(D.flatMap (mof l)).length≤l.length
 | [],l,_=>by simp
 | d::D,l,h=>by
   obtain ⟨h1,h2⟩:=List.nodup_cons.1 h
   have ih:=flatmof_nd D (l.filter fun m=>!decide (m.1=d)) h2
   have e:D.flatMap (mof l)=D.flatMap (mof (l.filter fun m=>!decide (m.1=d))):=by
    rw [List.flatMap_def,List.flatMap_def]
    congr 1
    refine List.map_congr_left (fun y hy=>?_)
    unfold mof
    rw [List.filter_filter]
    apply List.filter_congr
    intro m _
    by_cases hm:m.1=y
    ·have hn:¬y=d:=fun e=>h1 (by rw [←e];exact hy)
     simp [hm,hn]
    ·simp [hm]
   have hc:(l.filter fun m=>decide (m.1=d)).length+(l.filter fun m=>!decide (m.1=d)).length=l.length:=by
    clear ih e
    induction l with
    | nil=>rfl
    | cons a r ihr=>by_cases ha:a.1=d <;> simp [ha] <;> omega
   rw [List.flatMap_cons,List.length_append,e]
   unfold mof at ih ⊢
   omega
theorem dsort_nd (l:List Dot):(dsort l).Nodup:=List.Pairwise.imp (R:=DL) (S:=fun a b=>a≠b) (fun {a b} hab (e:a=b)=>DL.irrefl a (by rw [←e] at hab;exact hab)) (dsort_spec l).1
theorem flatmof_take (l:List Msg) (D:List Dot) (k:Nat) (h:k<D.length):(D.take (k+1)).flatMap (mof l)=(D.take k).flatMap (mof l)++mof l (D.getD k (0,0)):=by
 rw [tsd D k h];simp
theorem rsorted_any (v:Value) (l:List Msg) (w:World) (hr:Msgs w v l) (hl:l.length≤3000) :
 Calls Tryz.prog 103 #[v] w fun r w'=>∃v',r=.returned v'∧w'.ownsRow w.heap.size 43 5 v' (msort l).length (mvs (msort l))∧Pure w w':=by
 obtain ⟨a,cap,rfl⟩:=hr.shape
 have Hr:=hid hr
 have heq:=dot_eqIn
 clear hr
 go_enter Tryz.func103,Tryz.ntmps103
 go_wp2
 go_loopw [3,4] (fun v i wr=>∃k:Nat,k≤l.length∧i=.int .i64 k∧wr.ownsRow w.heap.size 28 2 v ((l.take k).map (·.1)).length (dvs ((l.take k).map (·.1)))∧Pure w wr) (fun _ i _=>l.length-(RowKit.intOf i).toNat)
 case atStart=>exact ⟨0,Nat.zero_le _,rfl,World.ownsRow_nil _ _ _ _,Below.refl _ _⟩
 case round =>
  obtain ⟨k,hk,rfl,hown,hp⟩:=hrel
  by_cases hlt:k<l.length
  ·obtain ⟨b,off,rfl,hb,c0,c1,-,-,-⟩:=Msgs.get (show Msgs wr (.slice a l.length cap) l from Row.pure Hr.out hp) hlt
   have hlt' : (k:Int)<(l.length:Int):=by omega
   have Hstep:Hid ((l.take (k+1)).map (·.1)=(l.take k).map (·.1)++[(l.getD k m0).1]):=by
    show _=_
    rw [take_succ_m l k hlt];simp
   have hfl:((l.take k).map (·.1)).length≤3000:=by simp;omega
   generalize (l.take k).map (·.1)=Y at *
   obtain ⟨a3,c3,rfl⟩:=osd hown
   have Hown:=hid hown
   have Hp:=hid hp
   clear hown hp
   generalize (l.getD k m0).1=z at *
   obtain ⟨z1,z2⟩:=z
   dsimp only at c0 c1
   have b4:w.heap.size≤(wr.alloc (.cells #[.int .i64 z1,.int .i64 z2] 28)).heap.size:=by have:=Hp.out.size;simp;omega
   go_wp2_with (at_builtin;refine wlad rfl _ _ rfl w.heap.size _ Y Y.length rfl (Hown.out.alloc _) _ [(z1,z2)] 1 rfl (dots_lit wr z1 z2) oe b4 ?_)
   intro v3 w3 hown3 hg3
   have Hown3:=hid hown3
   have hpn:=hid ((Hp.out.alloc Hp.out.size _).grown hg3 (by have:=Hp.out.size;simp;omega) (fun k hk=>(Hown.out.lt k hk).1))
   clear hown3 hg3
   go_wp2
   go_roundw
   case rel=>exact ⟨k+1,by omega,by go_num,by rw [Hstep.out];simpa using Hown3.out,hpn.out⟩
   case measure=>simp [RowKit.intOf];omega
  ·have hlt' : ¬(k:Int)<(l.length:Int):=by omega
   rw [List.take_of_length_le oe] at hown
   obtain ⟨wo,rfl⟩ : ∃wo:World,wo=wr:=⟨_,rfl⟩
   have hs:=hid (rsort_any _ _ wo (show Dots wo _ _ from Row.of_own hown) qc)
   have hdl:=dsort_len (l.map (·.1))
   have HDn:=hid (dsort_nd (l.map (·.1)))
   rw [List.length_map] at hdl
   have Hms:=qh (msort l=(dsort (l.map (·.1))).flatMap (mof l)) (rfl)
   obtain ⟨a6,c6,rfl⟩:=osd hown
   have Hpb:=hid hp
   clear hown hp
   generalize (l.map (·.1)).length=N2 at *
   generalize dsort (l.map (·.1))=D at *
   go_wp2_with fail
   refine hs.out.mono ?_
   rintro e w4 ⟨v4,rfl,hown4,hp4⟩
   have HD:=hid (Row.of_own hown4)
   obtain ⟨a7,c7,rfl⟩:=osd hown4
   have Hp4:=hid (Hpb.out.then_ hp4)
   have HR:=qh (Msgs w4 (.slice a l.length cap) l) (Row.pure Hr.out Hp4.out)
   clear hown4 hp4
   go_wp2
   go_loopw [5,6,7] (fun v i _ wr=>∃k:Nat,k≤D.length∧i=.int .i64 k∧wr.ownsRow w4.heap.size 43 5 v ((D.take k).flatMap (mof l)).length (mvs ((D.take k).flatMap (mof l)))∧Pure w4 wr) (fun _ i _ _=>D.length-(RowKit.intOf i).toNat)
   case atStart=>exact ⟨0,Nat.zero_le _,rfl,World.ownsRow_nil _ _ _ _,Below.refl _ _⟩
   case round =>
    obtain ⟨k,hk,rfl,hown,hp⟩:=hrel
    by_cases hlt:k<D.length
    ·have Hstep:=hid (flatmof_take l D k hlt)
     have hfl2:((D.take k).flatMap (mof l)).length≤3000:=Nat.le_trans (flatmof_nd _ l (HDn.out.sublist (List.take_sublist _ _))) hl
     have Hfl2:=hid hfl2
     have hlt' : (k:Int)<(D.length:Int):=by omega
     obtain ⟨wo2,rfl⟩ : ∃wo2:World,wo2=wr:=⟨_,rfl⟩
     obtain ⟨bd,od,rfl,hbd,d0,d1⟩:=Dots.get (show Dots w4 (.slice a7 D.length c7) D from HD.out) hlt
     generalize (D.take k).flatMap (mof l)=Y0 at *
     generalize D.getD k (0,0)=d at *
     obtain ⟨d1',d2'⟩:=d
     have Hcd:=hid (And.intro hbd (And.intro d0 d1))
     dsimp only at Hcd
     clear hbd d0 d1 hfl2
     have Hown:=hid hown
     have Hp:=hid hp
     obtain ⟨a8,c8,rfl⟩:=osd hown
     clear hown hp
     go_wp2
     go_loopw [5,7] (fun v i wr=>∃j:Nat,j≤l.length∧i=.int .i64 j∧wr.ownsRow w4.heap.size 43 5 v (Y0++mof (l.take j) (d1',d2')).length (mvs (Y0++mof (l.take j) (d1',d2')))∧Pure w4 wr) (fun _ i _=>l.length-(RowKit.intOf i).toNat)
     case atStart=>exact ⟨0,Nat.zero_le _,rfl,by simpa [mof] using Hown.out,Hp.out⟩
     case round =>
      obtain ⟨j,hj,rfl,hown,hp⟩:=hrel
      by_cases hlj:j<l.length
      ·obtain ⟨b,off,rfl,hb,c0,c1,c2,c3,c4⟩:=Msgs.get (show Msgs wr (.slice a l.length cap) l from Row.pure HR.out hp) hlj
       have e0:=(hp.cell (p:=⟨bd,od+k*2,none⟩) Hcd.out.1).trans Hcd.out.2.1
       have e1:=(hp.cell (p:=⟨bd,od+k*2+1,none⟩) Hcd.out.1).trans Hcd.out.2.2
       have hlj' : (j:Int)<(l.length:Int):=by omega
       have Hst:=hid (mof_take l (d1',d2') j hlj)
       have hfj:(Y0++mof (l.take j) (d1',d2')).length≤6000:=by
        have h1:=mof_len (l.take j) (d1',d2')
        have h2:=Hfl2.out
        rw [List.length_append];rw [List.length_take] at h1;omega
       have Hap:Hid (Y0++mof (l.take (j+1)) (d1',d2')=(Y0++mof (l.take j) (d1',d2'))++if decide ((l.getD j m0).1=(d1',d2')) then [l.getD j m0] else []):=by
        show _=_
        rw [Hst.out,List.append_assoc]
       generalize Y0++mof (l.take j) (d1',d2')=Y at *
       obtain ⟨a3,c3',rfl⟩:=osd hown
       have Hown3:=hid hown
       have Hp3:=hid hp
       clear hown hp Hst
       generalize l.getD j m0=z at *
       obtain ⟨⟨z1,z2⟩,q,bo,c⟩:=z
       have hlit:=hid (fun W=>msgs_lit W ((z1,z2),q,bo,c))
       dsimp only at c0 c1 c2 c3 c4 hlit
       by_cases he:z1=d1'∧z2=d2'
       ·obtain ⟨rfl,rfl⟩:=he
        have b5:∀n,w4.heap.size≤((wr.drewN n).alloc (.cells #[.int .i64 z1,.int .i64 z2,.string (bs q),.string (bs bo),.int .i64 c] 43)).heap.size:=fun n=>by have:=Hp3.out.size;simp;omega
        have Hdr:=hid (fun n=>own_pure Hown3.out (pdN wr n))
        have Hpd:=hid (fun n=>Hp3.out.then_ (pdN wr n))
        have Hb5:=hid b5
        clear b5
        go_wp2_with fail
        go_quiet (fail)
        go_wp2_with (at_builtin;refine wpList_append_msgs rfl _ _ rfl w4.heap.size _ Y Y.length rfl ((Hdr.out _).alloc _) _ [((z1,z2),q,bo,c)] 1 rfl (hlit.out _) oe (Hb5.out _) ?_)
        intro v5 w5 hown5 hg5
        have Hown5:=hid hown5
        have hpn:=hid (((Hpd.out _).alloc (Hpd.out _).size _).grown hg5 (by have:=Hp3.out.size;simp;omega) (fun k hk=>(Hown3.out.lt k hk).1))
        clear hown5 hg5
        go_wp2
        go_roundw
        case rel=>exact ⟨j+1,by omega,by go_num,by rw [Hap.out];simpa using Hown5.out,hpn.out⟩
        case measure=>simp [RowKit.intOf];omega
       ·have e2:(decide (z1=d1') && decide (z2=d2'))=false:=by simpa using he
        have He:=qh (decide ((z1,z2)=(d1',d2'))=false) (by simpa using he)
        clear he
        go_wp2_with fail
        go_quiet (fail)
        go_wp2
        go_roundw
        case rel=>exact ⟨j+1,by omega,by go_num,by rw [Hap.out,He.out];simpa using own_pure Hown3.out (pdN _ _),Hp3.out.then_ (pdN _ _)⟩
        case measure=>simp [RowKit.intOf];omega
      ·have hlj' : ¬(j:Int)<(l.length:Int):=by omega
       rw [List.take_of_length_le oe] at hown
       obtain ⟨a3,c3',rfl⟩:=osd hown
       have Hown3:=hid hown
       have Hp3:=hid hp
       clear hown hp
       go_wp2
       go_roundw
       case rel=>exact ⟨k+1,by omega,by go_num,by rw [Hstep.out];exact Hown3.out,Hp3.out⟩
       case measure=>simp [RowKit.intOf];omega
    ·have hlt' : ¬(k:Int)<(D.length:Int):=by omega
     rw [List.take_of_length_le oe,←Hms.out] at hown
     obtain ⟨a3,c3,rfl⟩:=osd hown
     have Hown:=hid hown
     have Hp:=hid hp
     clear hp hown
     go_wp2
     go_ret
     exact ⟨_,rfl,own_mono Hown.out Hp4.out.size,Hp4.out.then_ Hp.out⟩
end
end Go.Proofs.YtdlpnhfgjficgaaGreat
