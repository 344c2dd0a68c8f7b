import Derived.Test.YtdlpnhfgjficgaaGreatRX5
import Derived.Test.YtdlpnhfgjficgaaGreatEG
namespace Go.Proofs.YtdlpnhfgjficgaaGreat
section
set_option maxHeartbeats 4000000
set_option maxRecDepth 8000
open Go.RowKit Go.Maps Go.Shelf Go.Sort
def RdBagP (T:TypeId) (b:Nat) (g:Bag) (s:RS) (w:World) (e:Ending) (w' : World):Prop:=∃v0 v1 v2,e=.returned (.agg #[v0,v1,v2])∧BR3 v0 v1 v2 g w'∧BFr w.heap.size v0 v1 v2∧RdAt T b s w'∧Kept (fun k=>k=b) w w'
structure RbW (T:TypeId) (b nr nb:Nat) (X:List Dot × List Dot) (x1 x2 v:Value) (acc:List Msg) (s:RS) (w W:World):Prop where
 r:RdK T b s w W
 box:W.heap[nb]?=some (.cells #[v,x1,x2] 34 (0,0))
 res:W.heap[nr]?=some (.cells #[.slice none 0 0,.slice none 0 0,.slice none 0 0] 34 (0,0))
 own:W.ownsRow (nb+1) 43 5 v acc.length (mvs acc)
 ctx:CR x1 x2 X W
 wb:b<w.heap.size
 wr:w.heap.size=nr
 rn:nr<nb
 f1:∀k,x1.rb=some k→nr<k∧k<nb
 f2:∀k,x2.rb=some k→nr<k∧k<nb
section
variable {T:TypeId} {b nr nb:Nat} {X:List Dot × List Dot} {x1 x2 v:Value} {acc:List Msg} {s:RS} {w W W' : World}
theorem RbW.lt (h:RbW T b nr nb X x1 x2 v acc s w W):nb<W.heap.size:=lob h.box
theorem RbW.next (h:RbW T b nr nb X x1 x2 v acc s w W) {s' : RS} (hr:RdAt T b s' W') (hk:Kept (fun k=>k=b) W W'):RbW T b nr nb X x1 x2 v acc s' w W' :=
 have hb:=h.wb;have hw:=h.wr;have hn:=h.rn
 ⟨h.r.next hr hk,block_kept h.box hk oe,block_kept h.res hk oe,own_kept h.own hk (fun k hk e=>by have:=(h.own.lt k hk).1;omega),
  ⟨Dots.kept h.ctx.1 hk (fun k hk e=>by have:=(h.f1 k hk).1;omega),Dots.kept h.ctx.2 hk (fun k hk e=>by have:=(h.f2 k hk).1;omega)⟩,hb,hw,hn,h.f1,h.f2⟩
theorem RbW.pure (h:RbW T b nr nb X x1 x2 v acc s w W) (hp:Pure W W'):RbW T b nr nb X x1 x2 v acc s w W':=h.next (h.r.r.pure hp) hp.kept
theorem RbW.alloc (h:RbW T b nr nb X x1 x2 v acc s w W) (o:Obj):RbW T b nr nb X x1 x2 v acc s w (W.alloc o):=h.pure ((Below.refl _ _).alloc (Nat.le_refl _) o)
theorem RbW.keep {S:Nat→Prop} (h:RbW T b nr nb X x1 x2 v acc s w W) (hk:Kept S W W') (hS:∀k,k≤nb→¬S k) (ho:∀k,v.ownBlock=some k→¬S k):RbW T b nr nb X x1 x2 v acc s w W' :=
 have hb:=h.wb;have hw:=h.wr;have hn:=h.rn
 ⟨⟨h.r.r.kept hk (hS b oe),⟨hk.os.trans h.r.k.os,hk.tape.trans h.r.k.tape,hk.output.trans h.r.k.output,Nat.le_trans h.r.k.size hk.size,fun k hk' he=>(hk.block k (Nat.lt_of_lt_of_le hk' h.r.k.size) (hS k oe)).trans (h.r.k.block k hk' he)⟩⟩,
   (hk.block nb h.lt (hS nb (Nat.le_refl _))).trans h.box,(hk.block nr (lob h.res) (hS nr oe)).trans h.res,own_kept h.own hk ho,
   ⟨Dots.kept h.ctx.1 hk (fun k hk'=>hS k (by have:=(h.f1 k hk').2;omega)),Dots.kept h.ctx.2 hk (fun k hk'=>hS k (by have:=(h.f2 k hk').2;omega))⟩,hb,hw,hn,h.f1,h.f2⟩
theorem RbW.set (h:RbW T b nr nb X x1 x2 v acc s w W) {n i:Nat} (hn:nb<n) (ho:∀k,v.ownBlock=some k→k≠n) (u:Value):RbW T b nr nb X x1 x2 v acc s w (W.setCell ⟨n,i,none⟩ u) :=
 h.keep (kset W n i u) (fun k hk e=>by omega) ho
theorem RbW.grow (h:RbW T b nr nb X x1 x2 v acc s w W) {v' : Value} {acc' : List Msg} (hg:W.grownBy W' v.ownBlock) (hv:W'.ownsRow (nb+1) 43 5 v' acc'.length (mvs acc')):RbW T b nr nb X x1 x2 v' acc' s w (W'.setCell ⟨nb,0,none⟩ v'):=by
 have hb:=h.wb
 have hw:=h.wr
 have hn:=h.rn
 have hk:Kept (fun k=>nb<k) W W':=Kept.grown (S:=fun k=>nb<k) (Kept.refl _ _) hg (fun k hk _=>by have:=(h.own.lt k hk).1;omega)
 have h2:Kept (fun k=>nb≤k) W (W'.setCell ⟨nb,0,none⟩ v'):=(hk.mono (fun k _ e=>Nat.le_of_lt e)).setCell (p:=⟨nb,0,none⟩) (fun _=>Nat.le_refl _) v'
 have hbox:=(hk.block nb h.lt oe).trans h.box
 refine ⟨⟨h.r.r.kept h2 oe,⟨h2.os.trans h.r.k.os,h2.tape.trans h.r.k.tape,h2.output.trans h.r.k.output,Nat.le_trans h.r.k.size h2.size,fun k hk' he=>(h2.block k (Nat.lt_of_lt_of_le hk' h.r.k.size) oe).trans (h.r.k.block k hk' he)⟩⟩,?_,(h2.block nr (lob h.res) oe).trans h.res,own_kept hv (kset W' nb 0 v') (fun k hk e=>by have:=(hv.lt k hk).1;omega),⟨Dots.kept h.ctx.1 h2 (fun k hk'=>by have:=(h.f1 k hk').2;omega),Dots.kept h.ctx.2 h2 (fun k hk'=>by have:=(h.f2 k hk').2;omega)⟩,hb,hw,hn,h.f1,h.f2⟩
 have:=bsc hbox 0 v'
 simpa using this
theorem RbW.grownCells (h:RbW T b nr nb X x1 x2 v acc s w W) (hg:W.grownBy W' v.ownBlock):W'.cell? ⟨nb,0,none⟩=some v∧W'.frozen? ⟨nb,0,none⟩=false:=by
 have e:=(hg.block nb h.lt (fun e=>by have:=(h.own.lt nb e.symm).1;omega)).trans h.box
 exact ⟨cob e 0,fob e 0⟩
end
theorem RbW.done {T:TypeId} {b nr nb:Nat} {X:List Dot × List Dot} {x1 x2 v:Value} {acc:List Msg} {s:RS} {w W:World} (h:RbW T b nr nb X x1 x2 v acc s w W) {u0 u1 u2:Value} :
 RdK T b s w (((W.setCell ⟨nr,0,none⟩ u0).setCell ⟨nr,1,none⟩ u1).setCell ⟨nr,2,none⟩ u2)∧(((W.setCell ⟨nr,0,none⟩ u0).setCell ⟨nr,1,none⟩ u1).setCell ⟨nr,2,none⟩ u2).heap[nr]?=some (.cells #[u0,u1,u2] 34 (0,0))∧BR3 v x1 x2 (acc,X) (((W.setCell ⟨nr,0,none⟩ u0).setCell ⟨nr,1,none⟩ u1).setCell ⟨nr,2,none⟩ u2)∧BFr w.heap.size v x1 x2:=by
 have hb:=h.wb
 have hw:=h.wr
 have hn:=h.rn
 have hk:=((kset W nr 0 u0).trans (kset _ nr 1 u1)).trans (kset _ nr 2 u2)
 refine ⟨((h.r.set oe oe _).set oe oe _).set oe oe _,?_,⟨Row.kept (Row.of_own h.own) hk (fun k hk e=>by have:=(h.own.lt k (rb_own hk)).1;omega),Dots.kept h.ctx.1 hk (fun k hk e=>by have:=(h.f1 k hk).1;omega),Dots.kept h.ctx.2 hk (fun k hk e=>by have:=(h.f2 k hk).1;omega)⟩,fun k hk=>?_,fun k hk=>?_,fun k hk=>?_⟩
 ·have:=bsc (bsc (bsc h.res 0 u0) 1 u1) 2 u2
  simpa using this
 ·have:=(h.own.lt k (rb_own hk)).1;omega
 ·have:=(h.f1 k hk).1;omega
 ·have:=(h.f2 k hk).1;omega
theorem RbW.cells {T:TypeId} {b nr nb:Nat} {X:List Dot × List Dot} {x1 x2 v:Value} {acc:List Msg} {s:RS} {w W:World} (h:RbW T b nr nb X x1 x2 v acc s w W) :
 W.cell? ⟨nb,0,none⟩=some v∧W.cell? ⟨nb,1,none⟩=some x1∧W.cell? ⟨nb,2,none⟩=some x2∧W.frozen? ⟨nb,0,none⟩=false∧W.cell? ⟨nr,0,none⟩=some (.slice none 0 0)∧W.cell? ⟨nr,1,none⟩=some (.slice none 0 0)∧W.cell? ⟨nr,2,none⟩=some (.slice none 0 0)∧W.frozen? ⟨nr,0,none⟩=false∧W.frozen? ⟨nr,1,none⟩=false∧W.frozen? ⟨nr,2,none⟩=false :=
 ⟨cob h.box 0,cob h.box 1,cob h.box 2,fob h.box 0,cob h.res 0,cob h.res 1,cob h.res 2,fob h.res 0,fob h.res 1,fob h.res 2⟩
def MB (n:Nat) (x y:Int) (q p:List UInt8) (c:Int) (W:World):Prop:=W.heap[n]?=some (.cells #[.int .i64 x,.int .i64 y,.string (bs q),.string (bs p),.int .i64 c] 43 (0,0))
theorem MB.cells {n:Nat} {x y:Int} {q p:List UInt8} {c:Int} {W:World} (h:MB n x y q p c W):W.cell? ⟨n,0,none⟩=some (.int .i64 x)∧W.cell? ⟨n,1,none⟩=some (.int .i64 y)∧W.cell? ⟨n,2,none⟩=some (.string (bs q))∧W.cell? ⟨n,3,none⟩=some (.string (bs p))∧W.cell? ⟨n,4,none⟩=some (.int .i64 c)∧W.frozen? ⟨n,2,none⟩=false∧W.frozen? ⟨n,3,none⟩=false∧W.frozen? ⟨n,4,none⟩=false :=
 ⟨cob h 0,cob h 1,cob h 2,cob h 3,cob h 4,fob h 2,fob h 3,fob h 4⟩
theorem MB.set2 {n:Nat} {x y:Int} {q p:List UInt8} {c:Int} {W:World} (h:MB n x y q p c W) (q' : List UInt8):MB n x y q' p c (W.setCell ⟨n,2,none⟩ (.string (bs q'))):=by
 have:=bsc h 2 (.string (bs q'));simpa [MB] using this
theorem MB.set3 {n:Nat} {x y:Int} {q p:List UInt8} {c:Int} {W:World} (h:MB n x y q p c W) (p' : List UInt8):MB n x y q p' c (W.setCell ⟨n,3,none⟩ (.string (bs p'))):=by
 have:=bsc h 3 (.string (bs p'));simpa [MB] using this
theorem MB.set4 {n:Nat} {x y:Int} {q p:List UInt8} {c:Int} {W:World} (h:MB n x y q p c W) (c' : Int):MB n x y q p c' (W.setCell ⟨n,4,none⟩ (.int .i64 c')):=by
 have:=bsc h 4 (.int .i64 c');simpa [MB] using this
theorem bread_any (b:Nat) (s:RS) (w:World) (h:RdAt 117 b s w) :
 Calls Tryz.prog 89 #[.pointer (some ⟨b,0,none⟩)] w (RdBagP 117 b (rdBag s).1 (rdBag s).2 w):=by
 have hb:=h.lt
 have Hb:=hid hb
 have hctx:=hid (fun s W (hW:RdAt 117 b s W)=>cread_any b s W hW)
 have hfine:=hid (fun s W (hW:RdAt 117 b s W)=>fine_any b s W hW)
 have hint:=hid (fun s W (hW:RdAt 117 b s W)=>mintr_any b s 1000 W hW qd qd)
 have hcnt:=hid (fun s W (hW:RdAt 117 b s W)=>mintr_any b s 1048576 W hW qd qd)
 have htext:=hid (fun s W (hW:RdAt 117 b s W)=>mtextr_any b s 1000 W hW qd qd)
 have hdot:=hid (fun s W (hW:RdAt 117 b s W)=>dread_any b s W hW)
 have hneg:=hid (fun s W (hW:RdAt 117 b s W)=>(show Calls _ _ _ _ _ from by have:=mintr_any b s (-1) W hW qd qd;rw [rdInt_neg (-1) qd] at this;exact this))
 have hchk:=hid (fun v0 v1 v2 g W hr l0 l1 l2=>bcheck_any5 v0 v1 v2 g W hr l0 l1 l2)
 unfold RdP at hneg hint hcnt htext hdot
 unfold dv at hdot
 unfold RdCtxP at hctx
 have Hd:Hid (rdBag s=match rdItems rdMsg (rdInt 1000 (rdCtx s).2).1.toNat [] (rdInt 1000 (rdCtx s).2).2 with
  | (_,none)=>(([],[],[]),none)
  | (l,some r)=>if bchk (l,(rdCtx s).1) then ((l,(rdCtx s).1),some r) else (([],[],[]),none)):=(show _=_ from rfl)
 have hl:=rdCtx_len s
 have hbd:=rdInt_bd 1000 (rdCtx s).2
 have hz:=rdInt_zero 1000 (rdCtx s).2
 have hi1:=hid (hctx.out s)
 have hi2:=hid (hint.out (rdCtx s).2)
 generalize rdBag s=R at *
 generalize rdInt 1000 (rdCtx s).2=N2 at *
 generalize rdCtx s=N1 at *
 obtain ⟨⟨B,C⟩,s1⟩:=N1
 obtain ⟨x,s2⟩:=N2
 dsimp only at hi1 hi2 Hd hl hbd hz
 obtain ⟨n,rfl⟩ : ∃n:Nat,x=n:=⟨x.toNat,by omega⟩
 have Hr2:=hid Hd.out
 rw [Int.toNat_natCast] at Hr2
 obtain ⟨total,htot⟩:=qe (rdItems rdMsg n [] s2)
 rw [←htot] at Hr2
 have hbn:=hbd.2 oe
 have Hl:=hid hl
 clear hctx hint hbd Hd hl
 obtain ⟨wz,hwz⟩:=qe (w.alloc (.cells #[.slice none 0 0,.slice none 0 0,.slice none 0 0] 34))
 have Hz:=qh (RdK 117 b s w wz) (by rw [hwz];exact (RdK.start h).alloc _)
 have Bz:=qh (wz.heap[w.heap.size]?=some (.cells #[.slice none 0 0,.slice none 0 0,.slice none 0 0] 34 (0,0))) (by rw [hwz];exact ban _ _)
 have Sz:=qh (wz.heap.size=w.heap.size+1) (by rw [hwz];simp)
 clear h
 go_enter Tryz.func89,Tryz.ntmps89
 go_wp2_with fail
 rw [←hwz]
 clear hwz
 refine (hi1.out wz Hz.out.r).mono ?_
 rintro e w1 ⟨x1,x2,rfl,hcr,hf1,hf2,hr1,hk1⟩
 obtain ⟨a1,c1,rfl⟩:=hcr.1.shape
 obtain ⟨a2,c2,rfl⟩:=hcr.2.shape
 have hs1:=hk1.size
 have hsz:=Sz.out
 have G1:=qh (∀k,(Value.slice a1 B.length c1).rb=some k→w.heap.size<k∧k<w1.heap.size) (fun k hk=>by have:=hf1 k hk;have:=Row.lt hcr.1 k hk;omega)
 have G2:=qh (∀k,(Value.slice a2 C.length c2).rb=some k→w.heap.size<k∧k<w1.heap.size) (fun k hk=>by have:=hf2 k hk;have:=Row.lt hcr.2 k hk;omega)
 obtain ⟨v1,hv1⟩:=qe (w1.alloc (.cells #[.slice none 0 0,.slice a1 B.length c1,.slice a2 C.length c2] 34))
 have H1:=qh (RbW 117 b w.heap.size w1.heap.size (B,C) (.slice a1 B.length c1) (.slice a2 C.length c2) (.slice none 0 0) [] s1 w v1) (by
  have hr:=(Hz.out.next hr1 hk1).alloc (.cells #[.slice none 0 0,.slice a1 B.length c1,.slice a2 C.length c2] 34)
  rw [←hv1] at hr
  exact ⟨hr,by rw [hv1];exact ban _ _,by rw [hv1];exact bao (block_kept Bz.out hk1 oe) _,World.ownsRow_nil _ _ _ _,by rw [hv1];exact hcr.pure qp,hb,rfl,by omega,G1.out,G2.out⟩)
 clear hr1 hk1 hcr hf1 hf2 hs1 hsz Bz Hz hi1
 go_wp2_with fail
 rw [←hv1]
 clear hv1
 generalize w1.heap.size=nb at *
 refine (hi2.out v1 H1.out.r.r).mono ?_
 rintro e w2 ⟨rfl,hr2,hk2⟩
 have H2:=hid (H1.out.next hr2 hk2)
 clear hr2 hk2 H1 hi2
 go_wp2_with fail
 cases s2 with
 | none =>
   have hn0:n=0:=by have:=hz rfl;omega
   subst hn0
   have HR:=qh (R=(([],[],[]),none)) (by rw [Hr2.out,htot];rfl)
   clear htot hz Hr2
   go_loopw [10] (fun i wr=>i=.int .i64 0∧wr=w2) (fun _ _=>0)
   case atStart=>exact ⟨rfl,rfl⟩
   case round =>
    obtain ⟨rfl,rfl⟩:=hrel
    go_wp2_with fail
    refine (hfine.out none _ H2.out.r.r).mono ?_
    rintro e w3 ⟨rfl,hp3⟩
    have H3:=hid (H2.out.pure hp3)
    clear hp3
    go_wp2_with fail
    refine (hneg.out none w3 H3.out.r.r).mono ?_
    rintro e w4 ⟨rfl,hr4,hk4⟩
    have H4:=hid (H3.out.next hr4 hk4)
    obtain ⟨e0,e1,e2,e3,e4,e5,e6,e7,e8,e9⟩:=H4.out.cells
    have HD:=hid (H4.out.done (u0:=.slice none 0 0) (u1:=.slice none 0 0) (u2:=.slice none 0 0))
    clear hr4 hk4
    go_wp2
    exact bodyPost_ret (v:=.agg #[.slice none 0 0,.slice none 0 0,.slice none 0 0]) (by simp [results,Tryz.results89,go_sem,cob HD.out.2.1 0,cob HD.out.2.1 1,cob HD.out.2.1 2]) rfl ⟨_,_,_,rfl,by rw [HR.out];exact BR3.nil _,BFr.nil _,by rw [HR.out];exact HD.out.1.r,HD.out.1.k⟩
 | some r1 =>
   have Htot:=hid htot
   clear htot hz
   go_loopw [10] (fun i wr=>∃(k:Nat) (v:Value) (acc:List Msg) (s:List UInt8),i=.int .i64 k∧k≤n∧acc.length=k∧RbW 117 b w.heap.size nb (B,C) (.slice a1 B.length c1) (.slice a2 C.length c2) v acc (some s) w wr∧rdItems rdMsg (n-k) acc (some s)=total) (fun i _=>n-(RowKit.intOf i).toNat)
   case atStart=>exact ⟨0,_,[],r1,rfl,Nat.zero_le _,rfl,H2.out,Htot.out.symm⟩
   case round =>
    obtain ⟨k,v,acc,s,rfl,hkn,hlen,hI,ht⟩:=hrel
    have HI:=hid hI
    have Ht:=hid ht
    have Hlen:=hid hlen
    have hl1000:acc.length≤1000:=by omega
    obtain ⟨a,c,rfl⟩:=osd hI.own
    clear hI ht hlen
    by_cases hlt:k<n
    ·have hlt' : (k:Int)<(n:Int):=by omega
     have Hstep:=qh ((∀x,rdMsg (some s)=(x,none)→total=([],none))∧(∀x r,rdMsg (some s)=(x,some r)→rdItems rdMsg (n-(k+1)) (acc++[x]) (some r)=total)) (by
      have e:n-k=(n-(k+1))+1:=by omega
      have ht:=Ht.out
      rw [e] at ht
      exact ⟨fun x hx=>by rw [←ht,rdItems_torn rdMsg _ _ _ x hx],fun x r hx=>by rw [←ht,rdItems_fine rdMsg _ _ _ x r hx]⟩)
     have hM:rdMsg (some s)=(((rdDot (some s)).1,(rdX 1000 (rdDot (some s)).2).1,(rdX 1000 (rdX 1000 (rdDot (some s)).2).2).1,(rdInt 1048576 (rdX 1000 (rdX 1000 (rdDot (some s)).2).2).2).1),(rdInt 1048576 (rdX 1000 (rdX 1000 (rdDot (some s)).2).2).2).2):=rfl
     have h1:=hid (hdot.out (some s))
     have h2:=hid (htext.out (rdDot (some s)).2)
     have h3:=hid (htext.out (rdX 1000 (rdDot (some s)).2).2)
     have h4:=hid (hcnt.out (rdX 1000 (rdX 1000 (rdDot (some s)).2).2).2)
     rw [hM] at Hstep
     clear hM
     generalize rdInt 1048576 (rdX 1000 (rdX 1000 (rdDot (some s)).2).2).2=N4 at *
     generalize rdX 1000 (rdX 1000 (rdDot (some s)).2).2=N3 at *
     generalize rdX 1000 (rdDot (some s)).2=N2 at *
     generalize rdDot (some s)=N1 at *
     obtain ⟨⟨d1,d2⟩,t1⟩:=N1
     obtain ⟨q,t2⟩:=N2
     obtain ⟨p,t3⟩:=N3
     obtain ⟨ct,t4⟩:=N4
     dsimp only at h1 h2 h3 h4 Hstep
     go_wp2_with fail
     refine (h1.out wr HI.out.r.r).mono ?_
     rintro e w3 ⟨rfl,hr3,hk3⟩
     have I3:=hid (HI.out.next hr3 hk3)
     obtain ⟨y3,hy3⟩:=qe (w3.alloc (.cells #[.int .i64 d1,.int .i64 d2,.string ⟨#[]⟩,.string ⟨#[]⟩,.int .i64 0] 43))
     have J3:=qh (RbW 117 b w.heap.size nb (B,C) (.slice a1 B.length c1) (.slice a2 C.length c2) (.slice a acc.length c) acc t1 w y3) (by rw [hy3];exact I3.out.alloc _)
     have M3:=qh (MB w3.heap.size d1 d2 [] [] 0 y3) (by rw [hy3];exact ban _ _)
     have nm:=qh (nb<w3.heap.size∧(∀j,(Value.slice a acc.length c).ownBlock=some j→j≠w3.heap.size)) (⟨I3.out.lt,fun j hj e=>by have:=(I3.out.own.lt j hj).2;omega⟩)
     clear hr3 hk3 I3 h1
     go_wp2_with fail
     rw [←hy3]
     clear hy3
     generalize w3.heap.size=m at *
     refine (h2.out y3 J3.out.r.r).mono ?_
     rintro e w4 ⟨rfl,hr4,hk4⟩
     have I4:=hid (J3.out.next hr4 hk4)
     have M4:=qh (MB m d1 d2 [] [] 0 w4) (block_kept M3.out hk4 (by have:=nm.out.1;have:=J3.out.rn;have:=J3.out.wr;omega))
     obtain ⟨-,-,e2,-,-,f2,-,-⟩:=M4.out.cells
     obtain ⟨y4,hy4⟩:=qe (w4.setCell ⟨m,2,none⟩ (.string (bs q)))
     have J4:=qh (RbW 117 b w.heap.size nb (B,C) (.slice a1 B.length c1) (.slice a2 C.length c2) (.slice a acc.length c) acc t2 w y4) (by rw [hy4];exact I4.out.set nm.out.1 nm.out.2 _)
     have N4:=qh (MB m d1 d2 q [] 0 y4) (by rw [hy4];exact M4.out.set2 q)
     clear hr4 hk4 I4 M4 J3 M3 h2
     go_wp2_with fail
     rw [←hy4]
     clear hy4 e2 f2
     refine (h3.out y4 J4.out.r.r).mono ?_
     rintro e w5 ⟨rfl,hr5,hk5⟩
     have I5:=hid (J4.out.next hr5 hk5)
     have M5:=qh (MB m d1 d2 q [] 0 w5) (block_kept N4.out hk5 (by have:=nm.out.1;have:=J4.out.rn;have:=J4.out.wr;omega))
     obtain ⟨-,-,-,e3,-,-,f3,-⟩:=M5.out.cells
     obtain ⟨y5,hy5⟩:=qe (w5.setCell ⟨m,3,none⟩ (.string (bs p)))
     have J5:=qh (RbW 117 b w.heap.size nb (B,C) (.slice a1 B.length c1) (.slice a2 C.length c2) (.slice a acc.length c) acc t3 w y5) (by rw [hy5];exact I5.out.set nm.out.1 nm.out.2 _)
     have N5:=qh (MB m d1 d2 q p 0 y5) (by rw [hy5];exact M5.out.set3 p)
     clear hr5 hk5 I5 M5 J4 N4 h3
     go_wp2_with fail
     rw [←hy5]
     clear hy5 e3 f3
     refine (h4.out y5 J5.out.r.r).mono ?_
     rintro e w6 ⟨rfl,hr6,hk6⟩
     have I6:=hid (J5.out.next hr6 hk6)
     have M6:=qh (MB m d1 d2 q p 0 w6) (block_kept N5.out hk6 (by have:=nm.out.1;have:=J5.out.rn;have:=J5.out.wr;omega))
     obtain ⟨-,-,-,-,e4,-,-,f4⟩:=M6.out.cells
     have J6:=hid (I6.out.set (i:=4) nm.out.1 nm.out.2 (.int .i64 ct))
     have N6:=hid (M6.out.set4 ct)
     obtain ⟨y6,hy6⟩:=qe (w6.setCell ⟨m,4,none⟩ (.int .i64 ct))
     rw [←hy6] at J6 N6
     clear hr6 hk6 I6 M6 J5 N5 h4
     go_upto_region 8 with fail
     rw [←hy6]
     clear hy6 e4 f4
     obtain ⟨g0,g1,g2,g3,g4,-,-,-⟩:=N6.out.cells
     obtain ⟨b0,-,-,b3,-,-,-,-,-,-⟩:=J6.out.cells
     have hsz6:=qh (nb+1≤(y6.alloc (.cells #[.int .i64 d1,.int .i64 d2,.string (bs q),.string (bs p),.int .i64 ct] 43)).heap.size) (by have:=J6.out.lt;simp;omega)
     have hs6:=hsz6.out
     go_wp2_with (at_builtin;refine wpList_append_msgs rfl _ _ rfl (nb+1) _ acc acc.length rfl (J6.out.own.alloc _) _ [((d1,d2),q,p,ct)] 1 rfl (msgs_lit y6 ((d1,d2),q,p,ct)) oe hs6 ?_)
     intro v7 w7 hown7 hg7
     have Hown7:=qh (w7.ownsRow (nb+1) 43 5 v7 (acc++[((d1,d2),q,p,ct)]).length (mvs (acc++[((d1,d2),q,p,ct)]))) (by rw [List.length_append];exact hown7)
     have J7:=hid ((J6.out.alloc _).grow hg7 Hown7.out)
     obtain ⟨h0,h3⟩:=(J6.out.alloc _).grownCells hg7
     obtain ⟨a7,c7,rfl⟩:=osd hown7
     obtain ⟨y7,hy7⟩:=qe (w7.setCell ⟨nb,0,none⟩ (.slice a7 (acc.length+1) c7))
     rw [←hy7] at J7
     clear hown7 hg7 b0 b3 g0 g1 g2 g3 g4 hs6
     go_wp2_with fail
     rw [←hy7]
     clear hy7 h0 h3
     refine (hfine.out t4 y7 J7.out.r.r).mono ?_
     rintro e w8 ⟨rfl,hp8⟩
     have J8:=hid (J7.out.pure hp8)
     clear hp8
     cases t4 with
     | none =>
       have HR:=qh (R=(([],[],[]),none)) (by rw [Hr2.out,Hstep.out.1 _ rfl])
       obtain ⟨e0,e1,e2,e3,e4,e5,e6,e7,e8,e9⟩:=J8.out.cells
       have HD:=hid (J8.out.done (u0:=.slice none 0 0) (u1:=.slice none 0 0) (u2:=.slice none 0 0))
       go_wp2
       exact bodyPost_ret (v:=.agg #[.slice none 0 0,.slice none 0 0,.slice none 0 0]) (by simp [results,Tryz.results89,go_sem,cob HD.out.2.1 0,cob HD.out.2.1 1,cob HD.out.2.1 2]) rfl ⟨_,_,_,rfl,by rw [HR.out];exact BR3.nil _,BFr.nil _,by rw [HR.out];exact HD.out.1.r,HD.out.1.k⟩
     | some r2 =>
       have HN:=hid (Hstep.out.2 _ _ rfl)
       go_wp2
       go_roundw
       case rel=>exact ⟨k+1,_,acc++[((d1,d2),q,p,ct)],r2,by go_num,by omega,by simp [Hlen.out],J8.out,HN.out⟩
       case measure=>simp [RowKit.intOf];omega
    ·obtain rfl:k=n:=by omega
     have hlt' : ¬(k:Int)<(k:Int):=by omega
     have Htt:=qh (total=(acc,some s)) (by have:=Ht.out;rw [Nat.sub_self] at this;exact this.symm)
     have HRr:=qh (R=if bchk (acc,(B,C)) then ((acc,(B,C)),some s) else (([],[],[]),none)) (by rw [Hr2.out,Htt.out])
     go_wp2_with fail
     refine (hfine.out (some s) wr HI.out.r.r).mono ?_
     rintro e w3 ⟨rfl,hp3⟩
     have J3:=hid (HI.out.pure hp3)
     have hcb:=hid (hchk.out _ _ _ (acc,(B,C)) w3 ⟨Row.of_own J3.out.own,J3.out.ctx.1,J3.out.ctx.2⟩ (by show acc.length≤_;omega) (by show B.length≤_;have:=Hl.out.1;omega) (by show C.length≤_;have:=Hl.out.2;omega))
     obtain ⟨e0,e1,e2,-,-,-,-,-,-,-⟩:=J3.out.cells
     unfold errOf at hcb
     generalize bchk (acc,(B,C))=V at *
     clear hp3
     go_wp2_with fail
     refine hcb.out.mono ?_
     rintro e w4 ⟨rfl,hp4⟩
     have J4:=hid (J3.out.pure hp4)
     clear hp4 e0 e1 e2
     cases V with
     | false =>
       have HR:=qh (R=(([],[],[]),none)) (HRr.out)
       go_wp2_with fail
       refine (hneg.out (some s) w4 J4.out.r.r).mono ?_
       rintro e w5 ⟨rfl,hr5,hk5⟩
       have J5:=hid (J4.out.next hr5 hk5)
       clear hr5 hk5
       obtain ⟨e0,e1,e2,e3,e4,e5,e6,e7,e8,e9⟩:=J5.out.cells
       have HD:=hid (J5.out.done (u0:=.slice none 0 0) (u1:=.slice none 0 0) (u2:=.slice none 0 0))
       go_wp2
       exact bodyPost_ret (v:=.agg #[.slice none 0 0,.slice none 0 0,.slice none 0 0]) (by simp [results,Tryz.results89,go_sem,cob HD.out.2.1 0,cob HD.out.2.1 1,cob HD.out.2.1 2]) rfl ⟨_,_,_,rfl,by rw [HR.out];exact BR3.nil _,BFr.nil _,by rw [HR.out];exact HD.out.1.r,HD.out.1.k⟩
     | true =>
       have HR:=qh (R=((acc,(B,C)),some s)) (HRr.out)
       obtain ⟨e0,e1,e2,e3,e4,e5,e6,e7,e8,e9⟩:=J4.out.cells
       have HD:=hid (J4.out.done (u0:=.slice a acc.length c) (u1:=.slice a1 B.length c1) (u2:=.slice a2 C.length c2))
       go_wp2
       exact bodyPost_ret (v:=.agg #[.slice a acc.length c,.slice a1 B.length c1,.slice a2 C.length c2]) (by simp [results,Tryz.results89,go_sem,cob HD.out.2.1 0,cob HD.out.2.1 1,cob HD.out.2.1 2]) rfl ⟨_,_,_,rfl,by rw [HR.out];exact HD.out.2.2.1,HD.out.2.2.2,by rw [HR.out];exact HD.out.1.r,HD.out.1.k⟩
end
section
set_option maxHeartbeats 4000000
set_option maxRecDepth 8000
open Go.RowKit Go.Maps Go.Shelf
theorem tnum_hit {l:List Tag} {s:List UInt8} {k:Nat} (hk:k<l.length) (hn:∀t ∈ l.take k,t.1≠s) (h:(l.getD k t0).1=s):tnum l s=(l.getD k t0).2:=by
 have e:l=l.take k++l.drop k:=(List.take_append_drop k l).symm
 have h1:tget (l.take k) s=none:=kget_none.2 hn
 have h2:tget l s=some (l.getD k t0):=by
  conv=>lhs;rw [e]
  show kget _ _ _=_
  rw [kget_append,drop_g t0 l k hk,kget_cons,if_pos h]
  rw [show kget (fun t:Tag=>t.1) (l.take k) s=none from h1];rfl
 unfold tnum
 rw [h2]
theorem tnum_miss {l:List Tag} {s:List UInt8} (hn:∀t ∈ l,t.1≠s):tnum l s=0:=by
 have h1:tget l s=none:=kget_none.2 hn
 unfold tnum
 rw [h1]
theorem rtnum_any (v:Value) (l:List Tag) (s:List UInt8) (w:World) (hr:Tags w v l) (hl:l.length≤100000) :
 Calls Tryz.prog 117 #[v,.string (bs s)] w fun e w'=>e=.returned (.int .i64 (tnum l s))∧w=w':=by
 obtain ⟨a,cap,rfl⟩:=hr.shape
 have Hr:=hid hr
 have Hhit:=hid (fun k (hk:k<l.length) (hn:∀t ∈ l.take k,t.1≠s) (h:(l.getD k t0).1=s)=>tnum_hit hk hn h)
 have Hmiss:=hid (fun (hn:∀t ∈ l,t.1≠s)=>tnum_miss hn)
 generalize tnum l s=R at *
 clear hr
 go_enter Tryz.func117,Tryz.ntmps117
 go_wp2
 go_loop [5] (fun i=>∃k:Nat,k≤l.length∧i=.int .i64 k∧∀t ∈ l.take k,t.1≠s) (fun i=>l.length-(RowKit.intOf i).toNat)
 case atStart=>exact ⟨0,Nat.zero_le _,rfl,by simp⟩
 case round =>
  obtain ⟨k,hk,rfl,hn⟩:=hrel
  have Hn:=hid hn
  clear hn
  by_cases hlt:k<l.length
  ·have hlt' : (k:Int)<(l.length:Int):=by omega
   obtain ⟨b,off,rfl,hb,x0,x1⟩:=Tags.get Hr.out hlt
   have Hh:=hid (Hhit.out k hlt Hn.out)
   have Htk:=hid (take_succ_g t0 l k hlt)
   generalize l.getD k t0=z at *
   obtain ⟨zs,zn⟩:=z
   dsimp only at x0 x1 Hh
   by_cases he:zs=s
   ·subst he
    have HR:=hid (Hh.out rfl)
    have hbt:((bs zs).toList == (bs zs).toList)=true:=by simp
    go_wp2
    go_ret
    exact ⟨by rw [HR.out];rfl,rfl⟩
   ·have hbt:((bs zs).toList == (bs s).toList)=false:=by
     rw [beq_eq_false_iff_ne,Ne,bs_listt,bs_listt];exact he
    have hbt2:¬(bs zs).toList=(bs s).toList:=by rw [bs_listt,bs_listt];exact he
    have He:=hid he
    clear he
    go_wp2
    go_round
    case rel=>exact ⟨k+1,by omega,by go_num,by rw [Htk.out];intro t ht;rcases List.mem_append.1 ht with h|h;exact Hn.out t h;simp only [List.mem_singleton] at h;subst h;exact He.out⟩
    case measure=>simp [RowKit.intOf];omega
  ·obtain rfl:k=l.length:=by omega
   have hlt' : ¬(l.length:Int)<(l.length:Int):=by omega
   have HR:=hid (Hmiss.out (by have:=Hn.out;rwa [List.take_length] at this))
   go_wp2
   go_ret
   exact ⟨by rw [HR.out];rfl,rfl⟩
def TagsF (w:World) (l:List Tag) (e:Ending) (w' : World):Prop:=∃v',e=.returned v'∧w'.ownsRow w.heap.size 90 2 v' l.length (gvs tcells l)∧Pure w w'
theorem rtwith_any (v:Value) (l:List Tag) (s:List UInt8) (n:Int) (w:World) (hr:Tags w v l) (hl:l.length≤100000) :
 Calls Tryz.prog 118 #[v,.string (bs s),.int .i64 n] w (TagsF w (twith l s n)):=by
 obtain ⟨a,cap,rfl⟩:=hr.shape
 have Hr:=hid (fun W (hW:Pure w W)=>(show Tags W (.slice a l.length cap) l from Row.pure hr hW))
 have Htw:=qh (∀p (z:Tag) (r:List Tag),twr s n p (z::r)=(if !p && !tlt z.1 s then [(s,n)] else [])++((if z.1=s then [] else [z])++twr s n (p || !tlt z.1 s) r)) (fun _ _ _=>rfl)
 have Htn:=qh (∀p,twr s n p []=if p then [] else [(s,n)]) (fun _=>rfl)
 have Hst:=qh (([]:List Tag)++twr s n false (l.drop 0)=twith l s n) (rfl)
 generalize twith l s n=R at *
 clear hr
 go_enter Tryz.func118,Tryz.ntmps118
 go_wp2
 go_loopw [7,8,9] (fun o d i wr=>∃(k:Nat) (Y:List Tag) (p:Bool),k≤l.length∧i=.int .i64 k∧d=.bool p∧Y++twr s n p (l.drop k)=R∧Y.length≤2*k∧wr.ownsRow w.heap.size 90 2 o Y.length (gvs tcells Y)∧Pure w wr) (fun _ _ i _=>l.length-(RowKit.intOf i).toNat)
 case atStart=>exact ⟨0,[],false,Nat.zero_le _,rfl,rfl,Hst.out,Nat.le_refl _,World.ownsRow_nil _ _ _ _,Below.refl _ _⟩
 case round =>
  obtain ⟨k,Y,p,hk,rfl,rfl,hY,hYl,hown,hp⟩:=hrel
  obtain ⟨a3,c3,rfl⟩:=osd hown
  have HO:=hid hown
  have HP:=hid hp
  have HY:=hid hY
  clear hown hp hY
  by_cases hlt:k<l.length
  ·have hlt' : (k:Int)<(l.length:Int):=by omega
   obtain ⟨b,off,rfl,-,x0,x1⟩:=Tags.get (Hr.out wr HP.out) hlt
   have Hcell:=hid (fun W (hW:Pure w W)=>(show W.cell? ⟨b,off+k*2,none⟩=some (.string (bs (l.getD k t0).1))∧W.cell? ⟨b,off+k*2+1,none⟩=some (.int .i64 (l.getD k t0).2) from by
    obtain ⟨b',off',e',-,y0,y1⟩:=Tags.get (Hr.out W hW) hlt
    cases e';exact ⟨y0,y1⟩))
   have Hd:=hid (drop_g t0 l k hlt)
   generalize l.getD k t0=z at *
   obtain ⟨zs,zn⟩:=z
   dsimp only at x0 x1 Hcell
   have HE:=qh (Y++((if !p && !tlt zs s then [(s,n)] else [])++((if zs=s then [] else [(zs,zn)])++twr s n (p || !tlt zs s) (l.drop (k+1))))=R) (by
    rw [←HY.out,Hd.out,Htw.out])
   have hbl:Op.bytesLess (bs zs).toList (bs s).toList=tlt zs s:=by rw [bs_listt,bs_listt];rfl
   generalize tlt zs s=T at *
   have hcase:(p=false∧T=false)∨p=true∨(p=false∧T=true):=by cases p <;> cases T <;> simp
   rcases hcase with ⟨rfl,rfl⟩|rfl|⟨rfl,rfl⟩
   case' inl =>
    have hs6:w.heap.size≤(wr.alloc (.cells #[.string (bs s),.int .i64 n] 90)).heap.size:=by have:=HP.out.size;simp;omega
    go_wp2_with (at_builtin;refine wpList_append_tags rfl _ _ rfl w.heap.size _ Y Y.length rfl (World.ownsRow.alloc HO.out _) _ [(s,n)] 1 rfl (tags_lit wr (s,n)) oe hs6 ?_)
    intro v5 w5 hown5 hg5
    have HP5:=hid ((HP.out.alloc HP.out.size (.cells #[.string (bs s),.int .i64 n] 90)).grown hg5 hs6 (fun k hk=>(HO.out.lt k hk).1))
    obtain ⟨YY,hYY⟩:=qe (Y++[(s,n)])
    have HO5:=qh (w5.ownsRow w.heap.size 90 2 v5 YY.length (gvs tcells YY)) (by rw [hYY,List.length_append];exact hown5)
    have HE5:=qh (YY++((if zs=s then [] else [(zs,zn)])++twr s n true (l.drop (k+1)))=R) (by have:=HE.out;rw [hYY,List.append_assoc];exact this)
    have hl5:YY.length≤2*k+1:=by rw [hYY,List.length_append];simp;omega
    obtain ⟨a5,c5,rfl⟩:=osd HO5.out
    have HYY:=hid hYY
    clear hown5 hg5 hs6 x0 x1 hYY
    obtain ⟨x0,x1⟩:=Hcell.out w5 HP5.out
   case' inr.inl =>
    have HP5:=hid HP.out
    have HO5:=hid HO.out
    have HE5:=qh (Y++((if zs=s then [] else [(zs,zn)])++twr s n true (l.drop (k+1)))=R) (by have:=HE.out;simpa using this)
    have hl5:Y.length≤2*k+1:=by omega
    generalize Y=YY at *
   case' inr.inr =>
    have HP5:=hid HP.out
    have HO5:=hid HO.out
    have HE5:=qh (Y++((if zs=s then [] else [(zs,zn)])++twr s n false (l.drop (k+1)))=R) (by have:=HE.out;simpa using this)
    have hl5:Y.length≤2*k+1:=by omega
    generalize Y=YY at *
   all_goals
    by_cases he:zs=s
    ·have HF:=qh (YY++twr s n _ (l.drop (k+1))=R) (by have:=HE5.out;rwa [if_pos he,List.nil_append] at this)
     subst he
     have hbt:((bs zs).toList == (bs zs).toList)=true:=by simp
     go_wp2
     go_roundw
     case rel=>exact ⟨k+1,YY,_,by omega,by go_num,rfl,HF.out,by omega,HO5.out,HP5.out⟩
     case measure=>simp [RowKit.intOf];omega
    ·have HF:=qh ((YY++[(zs,zn)])++twr s n _ (l.drop (k+1))=R) (by have:=HE5.out;rw [if_neg he] at this;rw [List.append_assoc];exact this)
     have hbt:((bs zs).toList == (bs s).toList)=false:=by
      rw [beq_eq_false_iff_ne,Ne,bs_listt,bs_listt];exact he
     have hbt2:¬(bs zs).toList=(bs s).toList:=by rw [bs_listt,bs_listt];exact he
     have hs7:=hid (fun (W:World) (hW:Pure w W) (o:Obj)=>(show w.heap.size≤(W.alloc o).heap.size by have:=hW.size;simp;omega))
     clear he
     go_wp2_with (at_builtin;refine wpList_append_tags rfl _ _ rfl w.heap.size _ YY YY.length rfl (World.ownsRow.alloc HO5.out _) _ [(zs,zn)] 1 rfl (tags_lit _ (zs,zn)) oe (hs7.out _ HP5.out _) ?_)
     intro v6 w6 hown6 hg6
     have HP6:=hid ((HP5.out.alloc HP5.out.size (.cells #[.string (bs zs),.int .i64 zn] 90)).grown hg6 (hs7.out _ HP5.out _) (fun k hk=>(HO5.out.lt k hk).1))
     have HO6:=qh (w6.ownsRow w.heap.size 90 2 v6 (YY++[(zs,zn)]).length (gvs tcells (YY++[(zs,zn)]))) (by rw [List.length_append];exact hown6)
     clear hown6 hg6
     go_wp2
     go_roundw
     case rel=>exact ⟨k+1,YY++[(zs,zn)],_,by omega,by go_num,rfl,HF.out,by rw [List.length_append];simp;omega,HO6.out,HP6.out⟩
     case measure=>simp [RowKit.intOf];omega
  ·obtain rfl:k=l.length:=by omega
   have hlt' : ¬(l.length:Int)<(l.length:Int):=by omega
   have HF:=qh (Y++(if p then [] else [(s,n)])=R) (by have:=HY.out;rwa [List.drop_length,Htn.out] at this)
   cases p with
   | true =>
     have HR:=qh (Y=R) (by have:=HF.out;simpa using this)
     go_wp2
     go_ret
     exact ⟨_,rfl,by rw [←HR.out];exact HO.out,HP.out⟩
   | false =>
     have HR:=qh (Y++[(s,n)]=R) (by have:=HF.out;simpa using this)
     have hs6:w.heap.size≤(wr.alloc (.cells #[.string (bs s),.int .i64 n] 90)).heap.size:=by have:=HP.out.size;simp;omega
     go_wp2_with (at_builtin;refine wpList_append_tags rfl _ _ rfl w.heap.size _ Y Y.length rfl (World.ownsRow.alloc HO.out _) _ [(s,n)] 1 rfl (tags_lit wr (s,n)) oe hs6 ?_)
     intro v5 w5 hown5 hg5
     have HP5:=hid ((HP.out.alloc HP.out.size (.cells #[.string (bs s),.int .i64 n] 90)).grown hg5 hs6 (fun k hk=>(HO.out.lt k hk).1))
     have HO5:=qh (w5.ownsRow w.heap.size 90 2 v5 R.length (gvs tcells R)) (by rw [←HR.out,List.length_append];exact hown5)
     clear hown5 hg5 hs6
     go_wp2
     go_ret
     exact ⟨_,rfl,HO5.out,HP5.out⟩
end
section
set_option maxHeartbeats 2000000
set_option maxRecDepth 8000
open Go.RowKit Go.Maps Go.Shelf
theorem mtextB_any (s:List UInt8) (w:World) (hn:s.length≤1000000) :
 Calls Tryz.prog 128 #[.string (bs s)] w fun e w'=>e=.returned (.string (bs (textB s)))∧Pure w w':=mtext_any s w hn
theorem rtextB_any (s:List UInt8) (w:World) (hn:s.length≤1000000) :
 Calls Tryz.prog 132 #[.string (bs s)] w fun e w'=>e=.returned (.string (bs (textB s)))∧Pure w w':=rtext_any s w hn
theorem tagsB_take (l:List Tag) (k:Nat) (h:k<l.length):(num l.length++(l.take (k+1)).flatMap tagB)=(num l.length++(l.take k).flatMap tagB)++tagB (l.getD k t0):=by
 rw [take_succ_g t0 l k h,List.flatMap_append];simp
theorem tagB_len {t:Tag} (h:tmay t=true):(tagB t).length≤100:=by
 have hn:=tmay_n h
 unfold tmay at h
 simp only [Bool.and_eq_true,decide_eq_true_eq] at h
 have h1:=num_len t.1.length oe
 have h2:=num_len t.2.toNat oe
 unfold tagB textB
 simp only [List.length_append]
 omega
theorem flatT_len (l:List Tag) (h:∀d ∈ l,tmay d=true):(l.flatMap tagB).length≤100*l.length:=by
 induction l with
 | nil=>simp
 | cons a l ih =>
   have:=tagB_len (h a qb)
   have:=ih (fun d hd=>h d (by simp [hd]))
   simp only [List.flatMap_cons,List.length_append,List.length_cons];omega
theorem tbytes_any (v:Value) (l:List Tag) (w:World) (hr:Tags w v l) (hs:∀d ∈ l,tmay d=true) (hl:l.length≤100000) :
 Calls Tryz.prog 64 #[v] w fun r w'=>r=.returned (.string (bs (tagsB l)))∧Pure w w':=by
 obtain ⟨a,cap,rfl⟩:=hr.shape
 have Hr:=hid hr
 have Hs:=hid hs
 have hi:=hid (mint_any l.length w oe oe)
 unfold tagsB
 clear hr hs
 go_enter Tryz.func64,Tryz.ntmps64
 go_wp2_with (go_at_call 60;refine hi.out.mono ?_;rintro e w1 ⟨rfl,hp1⟩;have Hp1:=hid hp1;clear hp1)
 go_loopw [3,5,11] (fun s _ i wr=>∃k:Nat,k≤l.length∧i=.int .i64 k∧s=.string (bs (num l.length++(l.take k).flatMap tagB))∧Pure w wr) (fun _ _ i _=>l.length-(RowKit.intOf i).toNat)
 case atStart=>exact ⟨0,Nat.zero_le _,rfl,by simp,Hp1.out⟩
 case round =>
  obtain ⟨k,hk,rfl,rfl,hp⟩:=hrel
  by_cases hlt:k<l.length
  ·obtain ⟨b,off,rfl,hb,c0,c1⟩:=Tags.get (show Tags wr (.slice a l.length cap) l from Row.pure Hr.out hp) hlt
   have hlt' : (k:Int)<(l.length:Int):=by omega
   have Hstep:=hid (tagsB_take l k hlt)
   have hsm:=Hs.out _ (mem_get_g (z:=t0) hlt)
   have hb1:=tagB_len hsm
   have hb2:((l.take k).flatMap tagB).length≤10000000:=Nat.le_trans (flatT_len (l.take k) (fun d hd=>Hs.out d (List.mem_of_mem_take hd))) (by rw [List.length_take];omega)
   have hb3:=num_len l.length oe
   have hn:=tmay_n hsm
   have hx:=hid (fun W=>mtextB_any (l.getD k t0).1 W (by unfold tagB textB at hb1;simp only [List.length_append] at hb1;omega))
   have hy:=hid (fun W=>mint_any (l.getD k t0).2 W oe oe)
   have Hp:=hid hp
   clear hp hsm hn
   generalize l.getD k t0=z at *
   obtain ⟨zs,zn⟩:=z
   dsimp only at c0 c1 hx hy
   have hb1:(textB zs++num zn.toNat).length≤100:=hb1
   have Hstep:=qh (num l.length++(l.take (k+1)).flatMap tagB=(num l.length++(l.take k).flatMap tagB)++(textB zs++num zn.toNat)) (Hstep.out)
   have hns:¬9223372036854775807<(bs (textB zs)).size+(bs (num zn.toNat)).size:=by rw [bs_size,bs_size];simp only [List.length_append] at hb1;omega
   have hns2:¬9223372036854775807<(bs (num l.length++(l.take k).flatMap tagB)).size+((bs (textB zs)).size+(bs (num zn.toNat)).size):=by rw [bs_size,bs_size,bs_size,List.length_append];simp only [List.length_append] at hb1;omega
   have happ:=qh (bs (num l.length++(l.take k).flatMap tagB)++(bs (textB zs)++bs (num zn.toNat))=bs ((num l.length++(l.take k).flatMap tagB)++(textB zs++num zn.toNat))) (by rw [bs_append,bs_append])
   clear hb1 hb2 hb3
   have hst:=qh ((wr.alloc (.cells #[.string (bs zs),.int .i64 zn] 90)).drew.cell? ⟨wr.heap.size,0,none⟩=some (.string (bs zs))∧(wr.alloc (.cells #[.string (bs zs),.int .i64 zn] 90)).drew.cell? ⟨wr.heap.size,1,none⟩=some (.int .i64 zn)∧Pure wr (wr.alloc (.cells #[.string (bs zs),.int .i64 zn] 90)).drew) (⟨by simp,by simp,qp.drew⟩)
   have hkeep:Hid (∀W W' : World,Pure W W'→(W.cell? ⟨wr.heap.size,0,none⟩=some (.string (bs zs))∧W.cell? ⟨wr.heap.size,1,none⟩=some (.int .i64 zn)∧Pure wr W)→(W'.cell? ⟨wr.heap.size,0,none⟩=some (.string (bs zs))∧W'.cell? ⟨wr.heap.size,1,none⟩=some (.int .i64 zn)∧Pure wr W')):=fun W W' hp ⟨a,b,c⟩ =>
    ⟨(hp.cell (World.block_lt_of_cell? W _ a)).trans a,(hp.cell (World.block_lt_of_cell? W _ b)).trans b,c.then_ hp⟩
   generalize bs (textB zs)=X at *
   generalize bs (num zn.toNat)=Y at *
   generalize hS:bs (num l.length++(l.take k).flatMap tagB)=S at *
   clear hS
   go_wp2_with fail
   go_region_held3 (fun W=>W.cell? ⟨wr.heap.size,0,none⟩=some (.string (bs zs))∧W.cell? ⟨wr.heap.size,1,none⟩=some (.int .i64 zn)∧Pure wr W)
    (first|exact hst.out|exact hkeep.out _ _ qa qa)
    (first
      | (go_at_call 128;refine (hx.out _).mono ?_;rintro e w2 ⟨rfl,hp2⟩)
      | (go_at_call 60;refine (hy.out _).mono ?_;rintro e w2 ⟨rfl,hp2⟩))
   all_goals
    have hx':=qh (w2.cell? ⟨wr.heap.size,0,none⟩=some (.string (bs zs))∧w2.cell? ⟨wr.heap.size,1,none⟩=some (.int .i64 zn)∧Pure wr w2) (by assumption)
    clear hst hkeep hx hy
    go_wp2
    go_roundw
    (case rel=>exact ⟨k+1,by omega,by go_num,by rw [Hstep.out,←happ.out],Hp.out.then_ hx'.out.2.2⟩)
    (case measure=>simp [RowKit.intOf];omega)
  ·have hlt' : ¬(k:Int)<(l.length:Int):=by omega
   have e:l.take k=l:=List.take_of_length_le oe
   rw [e]
   have Hp:=hid hp
   clear hp e
   go_wp2
   go_ret
   exact ⟨rfl,Hp.out⟩
theorem rtbytes_any (v:Value) (l:List Tag) (w:World) (hr:Tags w v l) (hs:∀d ∈ l,tmay d=true) (hl:l.length≤100000) :
 Calls Tryz.prog 65 #[v] w fun r w'=>r=.returned (.string (bs (tagsB l)))∧Pure w w':=by
 obtain ⟨a,cap,rfl⟩:=hr.shape
 have Hr:=hid hr
 have Hs:=hid hs
 have hi:=hid (rint_any l.length w oe oe)
 unfold tagsB
 clear hr hs
 go_enter Tryz.func65,Tryz.ntmps65
 go_wp2_with (go_at_call 61;refine hi.out.mono ?_;rintro e w1 ⟨rfl,hp1⟩;have Hp1:=hid hp1;clear hp1)
 go_loopw [3,4] (fun s i wr=>∃k:Nat,k≤l.length∧i=.int .i64 k∧s=.string (bs (num l.length++(l.take k).flatMap tagB))∧Pure w wr) (fun _ i _=>l.length-(RowKit.intOf i).toNat)
 case atStart=>exact ⟨0,Nat.zero_le _,rfl,by simp,Hp1.out⟩
 case round =>
  obtain ⟨k,hk,rfl,rfl,hp⟩:=hrel
  by_cases hlt:k<l.length
  ·obtain ⟨b,off,rfl,hb,c0,c1⟩:=Tags.get (show Tags wr (.slice a l.length cap) l from Row.pure Hr.out hp) hlt
   have hlt' : (k:Int)<(l.length:Int):=by omega
   have Hstep:=hid (tagsB_take l k hlt)
   have hsm:=Hs.out _ (mem_get_g (z:=t0) hlt)
   have hb1:=tagB_len hsm
   have hb2:((l.take k).flatMap tagB).length≤10000000:=Nat.le_trans (flatT_len (l.take k) (fun d hd=>Hs.out d (List.mem_of_mem_take hd))) (by rw [List.length_take];omega)
   have hb3:=num_len l.length oe
   have hn:=tmay_n hsm
   have hx:=hid (fun W=>rtextB_any (l.getD k t0).1 W (by unfold tagB textB at hb1;simp only [List.length_append] at hb1;omega))
   have hy:=hid (fun W=>rint_any (l.getD k t0).2 W oe oe)
   have Hp:=hid hp
   clear hp hsm hn
   generalize l.getD k t0=z at *
   obtain ⟨zs,zn⟩:=z
   dsimp only at c0 c1 hx hy
   have hb1:(textB zs++num zn.toNat).length≤100:=hb1
   have Hstep:=qh (num l.length++(l.take (k+1)).flatMap tagB=(num l.length++(l.take k).flatMap tagB)++(textB zs++num zn.toNat)) (Hstep.out)
   have hns:¬9223372036854775807<(bs (num l.length++(l.take k).flatMap tagB)).size+(bs (textB zs)).size:=by rw [bs_size,bs_size,List.length_append];simp only [List.length_append] at hb1;omega
   have hns2:¬9223372036854775807<(bs (num l.length++(l.take k).flatMap tagB)).size+(bs (textB zs)).size+(bs (num zn.toNat)).size:=by rw [bs_size,bs_size,bs_size,List.length_append];simp only [List.length_append] at hb1;omega
   have happ:=qh (bs (num l.length++(l.take k).flatMap tagB)++bs (textB zs)++bs (num zn.toNat)=bs ((num l.length++(l.take k).flatMap tagB)++(textB zs++num zn.toNat))) (by rw [bs_append,bs_append,List.append_assoc])
   clear hb1 hb2 hb3
   have hst:=qh (wr.drew.cell? ⟨b,off+k*2,none⟩=some (.string (bs zs))∧wr.drew.cell? ⟨b,off+k*2+1,none⟩=some (.int .i64 zn)∧Pure wr wr.drew) (⟨c0,c1,qv⟩)
   have hkeep:Hid (∀W W' : World,Pure W W'→(W.cell? ⟨b,off+k*2,none⟩=some (.string (bs zs))∧W.cell? ⟨b,off+k*2+1,none⟩=some (.int .i64 zn)∧Pure wr W)→(W'.cell? ⟨b,off+k*2,none⟩=some (.string (bs zs))∧W'.cell? ⟨b,off+k*2+1,none⟩=some (.int .i64 zn)∧Pure wr W')):=fun W W' hp ⟨a,b,c⟩ =>
    ⟨(hp.cell (World.block_lt_of_cell? W _ a)).trans a,(hp.cell (World.block_lt_of_cell? W _ b)).trans b,c.then_ hp⟩
   generalize bs (textB zs)=X at *
   generalize bs (num zn.toNat)=Y at *
   generalize hS:bs (num l.length++(l.take k).flatMap tagB)=S at *
   clear hS
   go_wp2_with fail
   go_region_held3 (fun W=>W.cell? ⟨b,off+k*2,none⟩=some (.string (bs zs))∧W.cell? ⟨b,off+k*2+1,none⟩=some (.int .i64 zn)∧Pure wr W)
    (first|exact hst.out|exact hkeep.out _ _ qa qa)
    (first
      | (go_at_call 132;refine (hx.out _).mono ?_;rintro e w2 ⟨rfl,hp2⟩)
      | (go_at_call 61;refine (hy.out _).mono ?_;rintro e w2 ⟨rfl,hp2⟩))
   all_goals
    have hx':=qh (w2.cell? ⟨b,off+k*2,none⟩=some (.string (bs zs))∧w2.cell? ⟨b,off+k*2+1,none⟩=some (.int .i64 zn)∧Pure wr w2) (by assumption)
    clear hst hkeep hx hy
    go_wp2
    go_roundw
    (case rel=>exact ⟨k+1,by omega,by go_num,by rw [Hstep.out,←happ.out],Hp.out.then_ hx'.out.2.2⟩)
    (case measure=>simp [RowKit.intOf];omega)
  ·have hlt' : ¬(k:Int)<(l.length:Int):=by omega
   have e:l.take k=l:=List.take_of_length_le oe
   rw [e]
   have Hp:=hid hp
   clear hp e
   go_wp2
   go_ret
   exact ⟨rfl,Hp.out⟩
end
end Go.Proofs.YtdlpnhfgjficgaaGreat
