import Derived.Test.YtdlpnhfgjficgaaGreatMYy
set_option maxHeartbeats 4000000
set_option maxRecDepth 8000
namespace Go.Proofs.YtdlpnhfgjficgaaGreat
open Go.RowKit Go.Maps Go.Shelf
theorem SAt.set {n:Nat} {a u:Int} {r:List Value} {w:World} (h:SAt n a u r w) (j:Nat) (v:Value):SAt n a u (r.set j v) (w.setCell ⟨n,j+2,none⟩ v):=by
 unfold SAt
 have:=bsc h (j+2) v
 simpa using this
theorem SAt.at {n:Nat} {a u:Int} {r:List Value} {w:World} (h:SAt n a u r w) {j:Nat} {v:Value} (hv:r[j]?=some v):w.cell? ⟨n,j+2,none⟩=some v∧w.frozen? ⟨n,j+2,none⟩=false:=by
 refine ⟨?_,fob h _⟩
 have:=cob h (j+2)
 simpa [hv] using this
theorem SRows.setTags {n:Nat} {r:List Value} {S:SD} {w:World} {v:Value} {l:List Tag} (h:SRows n r S w) (hv:Tags w v l) (hf:∀k,v.rb=some k→k≠n):SRows n (r.set 48 v) { S with tags:=l } w:=by
 have hl:=h.len
 have hne:∀j,j≠48→(r.set 48 v)[j]?=r[j]?:=fun j hj=>List.getElem?_set_ne (fun e=>hj e.symm)
 refine ⟨by simpa using hl,fun p hp=>?_,⟨v,by rw [List.getElem?_set_self oe],hv,hf⟩,?_,?_⟩
 ·rw [hne _ oe,hne _ oe,hne _ oe];exact h.bag p hp
 ·rw [hne _ oe];exact h.view
 ·rw [hne _ oe];exact h.holds
theorem SRows.setView {n:Nat} {r:List Value} {S:SD} {w:World} {v:Value} {l:List Pr} (h:SRows n r S w) (hv:Peers w v l) (hf:∀k,v.rb=some k→k≠n):SRows n (r.set 49 v) { S with view:=l } w:=by
 have hl:=h.len
 have hne:∀j,j≠49→(r.set 49 v)[j]?=r[j]?:=fun j hj=>List.getElem?_set_ne (fun e=>hj e.symm)
 refine ⟨by simpa using hl,fun p hp=>?_,?_,⟨v,by rw [List.getElem?_set_self oe],hv,hf⟩,?_⟩
 ·rw [hne _ oe,hne _ oe,hne _ oe];exact h.bag p hp
 ·rw [hne _ oe];exact h.tags
 ·rw [hne _ oe];exact h.holds
theorem SRows.setHolds {n:Nat} {r:List Value} {S:SD} {w:World} {v:Value} {l:List Hold} (h:SRows n r S w) (hv:Holds w v l) (hf:∀k,v.rb=some k→k≠n):SRows n (r.set 50 v) { S with holds:=l } w:=by
 have hl:=h.len
 have hne:∀j,j≠50→(r.set 50 v)[j]?=r[j]?:=fun j hj=>List.getElem?_set_ne (fun e=>hj e.symm)
 refine ⟨by simpa using hl,fun p hp=>?_,?_,?_,⟨v,by rw [List.getElem?_set_self oe],hv,hf⟩⟩
 ·rw [hne _ oe,hne _ oe,hne _ oe];exact h.bag p hp
 ·rw [hne _ oe];exact h.tags
 ·rw [hne _ oe];exact h.view
def St2 (n m:Nat) (S:SD) (w:World):Prop:=∃r,SAt n S.id S.up r w∧SRows n r S w∧SRows m r S w
theorem St2.pure {n m:Nat} {S:SD} {w w' : World} (h:St2 n m S w) (hp:Pure w w'):St2 n m S w':=by
 obtain ⟨r,h1,h2,h3⟩:=h;exact ⟨r,h1.pure hp,h2.pure hp,h3.pure hp⟩
theorem St2.st {n m:Nat} {S:SD} {w:World} (h:St2 n m S w):St n S w:=by obtain ⟨r,h1,h2,_⟩:=h;exact ⟨r,h1,h2⟩
theorem St2.lt {n m:Nat} {S:SD} {w:World} (h:St2 n m S w):n<w.heap.size:=h.st.lt
theorem St.two {n:Nat} {S:SD} {w:World} (h:St n S w):St2 n n S w:=by obtain ⟨r,h1,h2⟩:=h;exact ⟨r,h1,h2,h2⟩
theorem SRows.kept2 {n m:Nat} {r:List Value} {S:SD} {w w' : World} (h2:SRows m r S w) (h:SRows n r S w) (hk:Kept (fun k=>k=n) w w'):SRows m r S w':=by
 refine ⟨h2.len,fun p hp'=>?_,?_,?_,?_⟩
 ·obtain ⟨v0,v1,v2,e0,e1,e2,hb,f⟩:=h2.bag p hp'
  obtain ⟨u0,u1,u2,d0,d1,d2,hb',g0,g1,g2⟩:=h.bag p hp'
  obtain rfl:u0=v0:=by rw [e0] at d0;injection d0 with d;exact d.symm
  obtain rfl:u1=v1:=by rw [e1] at d1;injection d1 with d;exact d.symm
  obtain rfl:u2=v2:=by rw [e2] at d2;injection d2 with d;exact d.symm
  exact ⟨u0,u1,u2,e0,e1,e2,hb.kept hk g0 g1 g2,f⟩
 ·obtain ⟨v,e,hr,f⟩:=h2.tags
  obtain ⟨u,d,_,g⟩:=h.tags
  obtain rfl:u=v:=by rw [e] at d;injection d with d;exact d.symm
  exact ⟨u,e,Row.kept hr hk g,f⟩
 ·obtain ⟨v,e,hr,f⟩:=h2.view
  obtain ⟨u,d,_,g⟩:=h.view
  obtain rfl:u=v:=by rw [e] at d;injection d with d;exact d.symm
  exact ⟨u,e,Row.kept hr hk g,f⟩
 ·obtain ⟨v,e,hr,f⟩:=h2.holds
  obtain ⟨u,d,_,g⟩:=h.holds
  obtain rfl:u=v:=by rw [e] at d;injection d with d;exact d.symm
  exact ⟨u,e,Row.kept hr hk g,f⟩
structure RdR {α:Type} (f:α→List Value) (sz:Nat) (T:TypeId) (n b p q:Nat) (v:Value) (l:List α) (s:RS) (w0 w:World):Prop where
 bp:w.heap[p]?=some (.cells #[v] T (0,0))
 bq:w.heap[q]?=some (.cells #[.pointer (some ⟨n,0,none⟩)] 24 (0,0))
 r:RdAt 117 b s w
 k:Kept (fun k=>k=b) w0 w
 row:GRow f sz w v l
 fr:∀k,v.rb=some k→w0.heap.size≤k
 pf:w0.heap.size≤p
 qf:w0.heap.size≤q
theorem RdR.pure {α:Type} {f:α→List Value} {sz:Nat} {T:TypeId} {n b p q:Nat} {v:Value} {l:List α} {s:RS} {w0 w w' : World} (h:RdR f sz T n b p q v l s w0 w) (hp:Pure w w'):RdR f sz T n b p q v l s w0 w' :=
 ⟨(hp.block _ (lob h.bp)).trans h.bp,(hp.block _ (lob h.bq)).trans h.bq,h.r.pure hp,h.k.trans hp.kept,Row.pure h.row hp,h.fr,h.pf,h.qf⟩
theorem pure_box {b:Nat} {w w1 w2:World} (hp:Pure w w1) (hk:Kept (fun k=>k=b) w1 w2) (hb:w.heap.size≤b):Pure w w2 :=
 (Kept.trans (Pure.kept (S:=fun k=>k=b) hp) hk).below (Nat.le_refl _) (fun k hk e=>by omega)
theorem sread_N (n b:Nat) (s:RS) (w:World) (h:RdAt 117 b s w) :
 Calls Tryz.prog 45 #[.pointer (some ⟨n,0,none⟩),.string ⟨#[78]⟩,.pointer (some ⟨b,0,none⟩)] w fun e w'=>∃p q v,e=.returned (.func (.func 93) #[] #[.pointer (some ⟨q,0,none⟩),.pointer (some ⟨p,0,none⟩)])∧RdR tcells 2 49 n b p q v (rdTags s).1 (rdTags s).2 w w':=by
 have hlt:=h.lt
 obtain ⟨W1,hW1⟩:=qe (w.alloc (.cells #[.pointer (some ⟨n,0,none⟩)] 24))
 have P1:=qh (Pure w W1) (by rw [hW1];exact qp)
 have Q1:=qh (W1.heap[w.heap.size]?=some (.cells #[.pointer (some ⟨n,0,none⟩)] 24 (0,0))) (by rw [hW1];exact ban _ _)
 have hi:=hid (tread_any b s W1 (h.pure P1.out))
 unfold RdRowG at hi
 have hmf:∀(fn:Fn) (first cap:Array Value) (w:World),(Instr.makeFunc fn first cap).run Tryz.prog w=.ok (.func fn first cap) w:=fun _ _ _ _=>rfl
 have Hlt:=hid hlt
 clear h hlt
 generalize rdTags s=R at *
 obtain ⟨l,s1⟩:=R
 dsimp only at hi ⊢
 go_enter Tryz.func45,Tryz.ntmps45
 go_wp2_with fail
 rw [←hW1]
 clear hW1
 refine hi.out.mono ?_
 rintro e w2 ⟨v,rfl,hrow,hf,hr2,hk2⟩
 obtain ⟨av,cv,rfl⟩:=GRow.shape hrow
 have Hrow:=hid hrow
 have Hf:=hid hf
 have Hr2:=hid hr2
 have Hk2:=hid hk2
 clear hr2 hk2 hrow hf hi
 go_wp2
 go_ret
 have hq:w2.heap[w.heap.size]?=some (.cells #[.pointer (some ⟨n,0,none⟩)] 24 (0,0)):=(Hk2.out.block _ (lob Q1.out) (by have:=Hlt.out;omega)).trans Q1.out
 have hpa:∀o,Pure w2 (w2.alloc o):=fun o=>(Below.refl _ _).alloc (Nat.le_refl _) o
 have hs1:=P1.out.size
 have hs2:=Hk2.out.size
 exact ⟨_,_,_,rfl,⟨ban _ _,bao hq _,Hr2.out.pure (hpa _),(P1.out.kept.trans Hk2.out).alloc _,Row.pure Hrow.out (hpa _),fun k hk=>Nat.le_trans hs1 (Hf.out k hk),Nat.le_trans hs1 hs2,Nat.le_refl _⟩⟩
theorem sclos_N (n m b p q:Nat) (v:Value) (S:SD) (l:List Tag) (s:RS) (w0 w:World) (hSt:St2 n m S w) (h:RdR tcells 2 49 n b p q v l s w0 w) (hn0:n<w0.heap.size) (hm0:m<w0.heap.size) (hn:S.tags.length+l.length≤10000) :
 Calls Tryz.prog 93 #[.pointer (some ⟨q,0,none⟩),.pointer (some ⟨p,0,none⟩)] w fun e w'=>e=.returned (.tuple #[])∧St2 n m { S with tags:=tjoin S.tags l } w'∧Kept (fun k=>k=n) w w':=by
 have hnl:=hSt.lt
 obtain ⟨r,hA,hR,hM⟩:=hSt
 obtain ⟨vt,ht,hv,hf⟩:=hR.tags
 have hj:=hid (fun W (hW:Pure w W)=>tjoin_any _ _ _ _ W (Row.pure hv hW) (Row.pure h.row hW) hn)
 obtain ⟨at0,ct0,rfl⟩:=GRow.shape hv
 obtain ⟨av,cv,rfl⟩:=GRow.shape h.row
 unfold TagO at hj
 have hS:=hid (fun W (hW:Pure w W)=>(show W.cell? ⟨q,0,none⟩=some (.pointer (some ⟨n,0,none⟩))∧W.cell? ⟨p,0,none⟩=some (.slice av l.length cv) from
  ⟨cob ((hW.block _ (lob h.bq)).trans h.bq) 0,cob ((hW.block _ (lob h.bp)).trans h.bp) 0⟩))
 have hS2:=hid (fun W (x:Value) (hW:Pure w W)=>(show (W.setCell ⟨n,50,none⟩ x).cell? ⟨q,0,none⟩=some (.pointer (some ⟨n,0,none⟩))∧(W.setCell ⟨n,50,none⟩ x).cell? ⟨p,0,none⟩=some (.slice av l.length cv) from
  ⟨cob (bso ((hW.block _ (lob h.bq)).trans h.bq) _ (by have:=h.qf;show n≠q;omega) _) 0,cob (bso ((hW.block _ (lob h.bp)).trans h.bp) _ (by have:=h.pf;show n≠p;omega) _) 0⟩))
 have HR:=hid hR
 have HM:=hid hM
 have Hnl:=hid hnl
 have Hml:=qh (m<w.heap.size) (Nat.lt_of_lt_of_le hm0 h.k.size)
 generalize hJ:tjoin S.tags l=J at *
 have HJ:=hid hJ
 clear h hJ hv hf hR hn0 hm0 hM
 go_enter Tryz.func93,Tryz.ntmps93
 go_wp2_with fail
 refine wp_region_held_drew (S:=(fun W=>W.cell? ⟨q,0,none⟩=some (.pointer (some ⟨n,0,none⟩))∧W.cell? ⟨p,0,none⟩=some (.slice av l.length cv))) qk ?_ (fun hHeld=>?_)
 ·exact hS.out _ qv
 obtain ⟨y0,hy0⟩:=qe (w.drew)
 have Q0:=qh (Pure w y0) (by rw [hy0];exact qv)
 rw [←hy0] at hHeld ⊢
 clear hy0
 have hn0:=(hA.pure Q0.out).at ht
 obtain ⟨c50,f50⟩:=hn0
 refine tkA 0 ?_
 refine tkA 1 ?_
 refine tkA 2 ?_
 refine tkA 3 ?_
 refine tkA 5 ?_
 refine tkC 4 fun K hK=>?_
 go_simp
 refine hK.out _ _ (by exact hS.out _ Q0.out) fun hHeld=>?_
 clear hK K
 refine tkC 6 fun K hK=>?_
 go_simp
 go_at_call 94;refine (hj.out _ Q0.out).mono ?_;rintro e y2 ⟨v9,rfl,hrow,hf,hp⟩;have Q2:=hid (Q0.out.then_ hp);obtain ⟨a9,c9,rfl⟩:=GRow.shape hrow
 refine hK.out _ _ (by exact hS.out _ Q2.out) fun hHeld=>?_
 clear hK K
 have Hrow:=hid hrow
 have Hf:=hid (fun k hk=>Nat.le_trans Q0.out.size (hf k hk))
 clear hrow hf c50 f50 hp
 obtain ⟨c50,f50⟩:=(hA.pure Q2.out).at ht
 refine tkA 7 ?_
 refine tkA 8 ?_
 refine tkC 9 fun K hK=>?_
 go_simp
 refine hK.out undef _ (by exact hS2.out _ _ Q2.out) fun hHeld=>?_
 clear hK K
 clear c50 f50
 refine wpAnyH_done qk ?_ _
 go_wp2
 go_end0
 have hk:Kept (fun k=>k=n) w (y2.setCell ⟨n,50,none⟩ (.slice a9 J.length c9)):=Kept.setCell (S:=fun k=>k=n) (Pure.kept Q2.out) (p:=⟨n,50,none⟩) (fun _=>rfl) _
 have hk1:Kept (fun k=>k=n) y2 (y2.setCell ⟨n,50,none⟩ (.slice a9 J.length c9)):=Kept.setCell (S:=fun k=>k=n) (Kept.refl _ _) (p:=⟨n,50,none⟩) (fun _=>rfl) _
 exact ⟨rfl,⟨_,(hA.pure Q2.out).set 48 _,((HR.out.pure Q2.out).kept hk1).setTags (Row.kept Hrow.out hk1 (fun k hk e=>by have:=Hf.out k hk;have:=Hnl.out;omega)) (fun k hk=>by have:=Hf.out k hk;have:=Hnl.out;omega),((HM.out.pure Q2.out).kept2 (HR.out.pure Q2.out) hk1).setTags (Row.kept Hrow.out hk1 (fun k hk e=>by have:=Hf.out k hk;have:=Hnl.out;omega)) (fun k hk=>by have:=Hf.out k hk;have:=Hml.out;omega)⟩,hk⟩
theorem sread_V (n b:Nat) (s:RS) (w:World) (h:RdAt 117 b s w) :
 Calls Tryz.prog 45 #[.pointer (some ⟨n,0,none⟩),.string ⟨#[86]⟩,.pointer (some ⟨b,0,none⟩)] w fun e w'=>∃p q v,e=.returned (.func (.func 96) #[] #[.pointer (some ⟨q,0,none⟩),.pointer (some ⟨p,0,none⟩)])∧RdR pcells 3 50 n b p q v (rdView s).1 (rdView s).2 w w':=by
 have hlt:=h.lt
 obtain ⟨W1,hW1⟩:=qe (w.alloc (.cells #[.pointer (some ⟨n,0,none⟩)] 24))
 have P1:=qh (Pure w W1) (by rw [hW1];exact qp)
 have Q1:=qh (W1.heap[w.heap.size]?=some (.cells #[.pointer (some ⟨n,0,none⟩)] 24 (0,0))) (by rw [hW1];exact ban _ _)
 have hi:=hid (vread_any b s W1 (h.pure P1.out))
 unfold RdRowG at hi
 have hmf:∀(fn:Fn) (first cap:Array Value) (w:World),(Instr.makeFunc fn first cap).run Tryz.prog w=.ok (.func fn first cap) w:=fun _ _ _ _=>rfl
 have Hlt:=hid hlt
 clear h hlt
 generalize rdView s=R at *
 obtain ⟨l,s1⟩:=R
 dsimp only at hi ⊢
 go_enter Tryz.func45,Tryz.ntmps45
 go_wp2_with fail
 rw [←hW1]
 clear hW1
 refine hi.out.mono ?_
 rintro e w2 ⟨v,rfl,hrow,hf,hr2,hk2⟩
 obtain ⟨av,cv,rfl⟩:=GRow.shape hrow
 have Hrow:=hid hrow
 have Hf:=hid hf
 have Hr2:=hid hr2
 have Hk2:=hid hk2
 clear hr2 hk2 hrow hf hi
 go_wp2
 go_ret
 have hq:w2.heap[w.heap.size]?=some (.cells #[.pointer (some ⟨n,0,none⟩)] 24 (0,0)):=(Hk2.out.block _ (lob Q1.out) (by have:=Hlt.out;omega)).trans Q1.out
 have hpa:∀o,Pure w2 (w2.alloc o):=fun o=>(Below.refl _ _).alloc (Nat.le_refl _) o
 have hs1:=P1.out.size
 have hs2:=Hk2.out.size
 exact ⟨_,_,_,rfl,⟨ban _ _,bao hq _,Hr2.out.pure (hpa _),(P1.out.kept.trans Hk2.out).alloc _,Row.pure Hrow.out (hpa _),fun k hk=>Nat.le_trans hs1 (Hf.out k hk),Nat.le_trans hs1 hs2,Nat.le_refl _⟩⟩
theorem sclos_V (n m b p q:Nat) (v:Value) (S:SD) (l:List Pr) (s:RS) (w0 w:World) (hSt:St2 n m S w) (h:RdR pcells 3 50 n b p q v l s w0 w) (hn0:n<w0.heap.size) (hm0:m<w0.heap.size) (hm:VV S.view) (hl:VV l) :
 Calls Tryz.prog 96 #[.pointer (some ⟨q,0,none⟩),.pointer (some ⟨p,0,none⟩)] w fun e w'=>e=.returned (.tuple #[])∧St2 n m { S with view:=vjoin S.view l } w'∧Kept (fun k=>k=n) w w':=by
 have hnl:=hSt.lt
 obtain ⟨r,hA,hR,hM⟩:=hSt
 obtain ⟨vt,ht,hv,hf⟩:=hR.view
 have hj:=hid (fun W (hW:Pure w W)=>vjoin_any _ _ _ _ W (Row.pure hv hW) (Row.pure h.row hW) hm.r (fun p hp=>(List.mem_append.1 hp).elim (hm.may p) (hl.may p)) (by have:=hm.n;omega) (by have:=hl.n;omega))
 obtain ⟨at0,ct0,rfl⟩:=GRow.shape hv
 obtain ⟨av,cv,rfl⟩:=GRow.shape h.row
 unfold PeerO at hj
 have hS:=hid (fun W (hW:Pure w W)=>(show W.cell? ⟨q,0,none⟩=some (.pointer (some ⟨n,0,none⟩))∧W.cell? ⟨p,0,none⟩=some (.slice av l.length cv) from
  ⟨cob ((hW.block _ (lob h.bq)).trans h.bq) 0,cob ((hW.block _ (lob h.bp)).trans h.bp) 0⟩))
 have hS2:=hid (fun W (x:Value) (hW:Pure w W)=>(show (W.setCell ⟨n,51,none⟩ x).cell? ⟨q,0,none⟩=some (.pointer (some ⟨n,0,none⟩))∧(W.setCell ⟨n,51,none⟩ x).cell? ⟨p,0,none⟩=some (.slice av l.length cv) from
  ⟨cob (bso ((hW.block _ (lob h.bq)).trans h.bq) _ (by have:=h.qf;show n≠q;omega) _) 0,cob (bso ((hW.block _ (lob h.bp)).trans h.bp) _ (by have:=h.pf;show n≠p;omega) _) 0⟩))
 have HR:=hid hR
 have HM:=hid hM
 have Hnl:=hid hnl
 have Hml:=qh (m<w.heap.size) (Nat.lt_of_lt_of_le hm0 h.k.size)
 generalize hJ:vjoin S.view l=J at *
 have HJ:=hid hJ
 clear h hJ hv hf hR hn0 hm0 hM
 go_enter Tryz.func96,Tryz.ntmps96
 go_wp2_with fail
 refine wp_region_held_drew (S:=(fun W=>W.cell? ⟨q,0,none⟩=some (.pointer (some ⟨n,0,none⟩))∧W.cell? ⟨p,0,none⟩=some (.slice av l.length cv))) qk ?_ (fun hHeld=>?_)
 ·exact hS.out _ qv
 obtain ⟨y0,hy0⟩:=qe (w.drew)
 have Q0:=qh (Pure w y0) (by rw [hy0];exact qv)
 rw [←hy0] at hHeld ⊢
 clear hy0
 have hn0:=(hA.pure Q0.out).at ht
 obtain ⟨c50,f50⟩:=hn0
 refine tkA 0 ?_
 refine tkA 1 ?_
 refine tkA 2 ?_
 refine tkA 3 ?_
 refine tkA 5 ?_
 refine tkC 4 fun K hK=>?_
 go_simp
 refine hK.out _ _ (by exact hS.out _ Q0.out) fun hHeld=>?_
 clear hK K
 refine tkC 6 fun K hK=>?_
 go_simp
 go_at_call 97;refine (hj.out _ Q0.out).mono ?_;rintro e y2 ⟨v9,rfl,hrow,hf,hp⟩;have Q2:=hid (Q0.out.then_ hp);obtain ⟨a9,c9,rfl⟩:=GRow.shape hrow
 refine hK.out _ _ (by exact hS.out _ Q2.out) fun hHeld=>?_
 clear hK K
 have Hrow:=hid hrow
 have Hf:=hid (fun k hk=>Nat.le_trans Q0.out.size (hf k hk))
 clear hrow hf c50 f50 hp
 obtain ⟨c50,f50⟩:=(hA.pure Q2.out).at ht
 refine tkA 7 ?_
 refine tkA 8 ?_
 refine tkC 9 fun K hK=>?_
 go_simp
 refine hK.out undef _ (by exact hS2.out _ _ Q2.out) fun hHeld=>?_
 clear hK K
 clear c50 f50
 refine wpAnyH_done qk ?_ _
 go_wp2
 go_end0
 have hk:Kept (fun k=>k=n) w (y2.setCell ⟨n,51,none⟩ (.slice a9 J.length c9)):=Kept.setCell (S:=fun k=>k=n) (Pure.kept Q2.out) (p:=⟨n,51,none⟩) (fun _=>rfl) _
 have hk1:Kept (fun k=>k=n) y2 (y2.setCell ⟨n,51,none⟩ (.slice a9 J.length c9)):=Kept.setCell (S:=fun k=>k=n) (Kept.refl _ _) (p:=⟨n,51,none⟩) (fun _=>rfl) _
 exact ⟨rfl,⟨_,(hA.pure Q2.out).set 49 _,((HR.out.pure Q2.out).kept hk1).setView (Row.kept Hrow.out hk1 (fun k hk e=>by have:=Hf.out k hk;have:=Hnl.out;omega)) (fun k hk=>by have:=Hf.out k hk;have:=Hnl.out;omega),((HM.out.pure Q2.out).kept2 (HR.out.pure Q2.out) hk1).setView (Row.kept Hrow.out hk1 (fun k hk e=>by have:=Hf.out k hk;have:=Hnl.out;omega)) (fun k hk=>by have:=Hf.out k hk;have:=Hml.out;omega)⟩,hk⟩
theorem sread_H (n b:Nat) (s:RS) (w:World) (h:RdAt 117 b s w) :
 Calls Tryz.prog 45 #[.pointer (some ⟨n,0,none⟩),.string ⟨#[72]⟩,.pointer (some ⟨b,0,none⟩)] w fun e w'=>∃p q v,e=.returned (.func (.func 99) #[] #[.pointer (some ⟨p,0,none⟩),.pointer (some ⟨q,0,none⟩)])∧RdR hcells 4 51 n b p q v (rdHolds s).1 (rdHolds s).2 w w':=by
 have hlt:=h.lt
 obtain ⟨W1,hW1⟩:=qe (w.alloc (.cells #[.pointer (some ⟨n,0,none⟩)] 24))
 have P1:=qh (Pure w W1) (by rw [hW1];exact qp)
 have Q1:=qh (W1.heap[w.heap.size]?=some (.cells #[.pointer (some ⟨n,0,none⟩)] 24 (0,0))) (by rw [hW1];exact ban _ _)
 have hi:=hid (hread_any b s W1 (h.pure P1.out))
 unfold RdRowG at hi
 have hmf:∀(fn:Fn) (first cap:Array Value) (w:World),(Instr.makeFunc fn first cap).run Tryz.prog w=.ok (.func fn first cap) w:=fun _ _ _ _=>rfl
 have Hlt:=hid hlt
 clear h hlt
 generalize rdHolds s=R at *
 obtain ⟨l,s1⟩:=R
 dsimp only at hi ⊢
 go_enter Tryz.func45,Tryz.ntmps45
 go_wp2_with fail
 rw [←hW1]
 clear hW1
 refine hi.out.mono ?_
 rintro e w2 ⟨v,rfl,hrow,hf,hr2,hk2⟩
 obtain ⟨av,cv,rfl⟩:=GRow.shape hrow
 have Hrow:=hid hrow
 have Hf:=hid hf
 have Hr2:=hid hr2
 have Hk2:=hid hk2
 clear hr2 hk2 hrow hf hi
 go_wp2
 go_ret
 have hq:w2.heap[w.heap.size]?=some (.cells #[.pointer (some ⟨n,0,none⟩)] 24 (0,0)):=(Hk2.out.block _ (lob Q1.out) (by have:=Hlt.out;omega)).trans Q1.out
 have hpa:∀o,Pure w2 (w2.alloc o):=fun o=>(Below.refl _ _).alloc (Nat.le_refl _) o
 have hs1:=P1.out.size
 have hs2:=Hk2.out.size
 exact ⟨_,_,_,rfl,⟨ban _ _,bao hq _,Hr2.out.pure (hpa _),(P1.out.kept.trans Hk2.out).alloc _,Row.pure Hrow.out (hpa _),fun k hk=>Nat.le_trans hs1 (Hf.out k hk),Nat.le_trans hs1 hs2,Nat.le_refl _⟩⟩
theorem sclos_H (n m b p q:Nat) (v:Value) (S:SD) (l:List Hold) (s:RS) (w0 w:World) (hSt:St2 n m S w) (h:RdR hcells 4 51 n b p q v l s w0 w) (hn0:n<w0.heap.size) (hm0:m<w0.heap.size) :
 Calls Tryz.prog 99 #[.pointer (some ⟨p,0,none⟩),.pointer (some ⟨q,0,none⟩)] w fun e w'=>e=.returned (.tuple #[])∧St2 n m { S with holds:=l } w'∧Kept (fun k=>k=n) w w':=by
 obtain ⟨r,hA,hR,hM⟩:=hSt
 obtain ⟨vt,ht,hv,hf⟩:=hR.holds
 obtain ⟨av,cv,rfl⟩:=GRow.shape h.row
 obtain ⟨c52,f52⟩:=hA.at ht
 obtain ⟨at0,ct0,rfl⟩:=GRow.shape hv
 have cq:w.cell? ⟨q,0,none⟩=some (.pointer (some ⟨n,0,none⟩)):=cob h.bq 0
 have cp:w.cell? ⟨p,0,none⟩=some (.slice av l.length cv):=cob h.bp 0
 have HR:=hid hR
 have Hrow:=hid h.row
 have Hf:=hid (fun k hk=>(show k≠n from fun e=>by have:=h.fr k hk;omega))
 have Hfm:=hid (fun k hk=>(show k≠m from fun e=>by have:=h.fr k hk;omega))
 have HM:=hid hM
 clear h hv hf hR hn0 hm0 hM
 go_enter Tryz.func99,Tryz.ntmps99
 go_wp2
 go_end0
 have hk1:Kept (fun k=>k=n) w (w.setCell ⟨n,52,none⟩ (.slice av l.length cv)):=Kept.setCell (S:=fun k=>k=n) (Kept.refl _ _) (p:=⟨n,52,none⟩) (fun _=>rfl) _
 exact ⟨rfl,⟨_,hA.set 50 _,(HR.out.kept hk1).setHolds (Row.kept Hrow.out hk1 (fun k hk=>Hf.out k hk)) Hf.out,(HM.out.kept2 HR.out hk1).setHolds (Row.kept Hrow.out hk1 (fun k hk=>Hf.out k hk)) Hfm.out⟩,hk1⟩
def apN (S:SD) (l:List UInt8):SD × Int:=if (rdTags (some l)).2=some [] then ({ S with tags:=tjoin S.tags (rdTags (some l)).1 },0) else (S,10)
theorem sapply_N (n m:Nat) (S:SD) (l:List UInt8) (w:World) (h:St2 n m S w) (hm:m<w.heap.size) (hk:TV S.tags) :
 Calls Tryz.prog 14 #[.pointer (some ⟨n,0,none⟩),.string (bs (78::l))] w fun e w'=>e=.returned (.int .i64 (apN S l).2)∧St2 n m (apN S l).1 w'∧Kept (fun k=>k=n) w w':=by
 have hlt:=hid h.lt
 have H:=hid h
 have Hm:=hid hm
 have hok:=(show S.tags.length+(rdTags (some l)).1.length≤10000 from by have:=hk.n;have:=(rdTags_ok (some l)).n;omega)
 have Hok:=hid hok
 have hmr:=hid (mread_any l w)
 have hrd:=hid (fun W (hW:RdAt 117 w.heap.size (some l) W)=>sread_N n w.heap.size (some l) W hW)
 have hx1:(bs (78::l)).extract 0 1=⟨#[78]⟩:=by
  rw [bs_take];rfl
 have hx2:(bs (78::l)).extract 1 (l.length+1)=bs l:=by
  rw [bs_drop _ _ _ qb];rfl
 have hsz:(bs (78::l)).size=l.length+1:=by rw [bs_size];simp
 have hne:((bs (78::l)).toList=[])=False:=by rw [bs_list1];simp
 have hne2:((bs (78::l)).toList == [])=false:=by rw [bs_list1];rfl
 have hA:=qh (apN S l=if (rdTags (some l)).2=some [] then ({ S with tags:=tjoin S.tags (rdTags (some l)).1 },0) else (S,10)) (rfl)
 generalize apN S l=Z at *
 generalize rdTags (some l)=RR at *
 obtain ⟨R,s1⟩:=RR
 dsimp only at hrd hA hok
 have hend:=hid (fun W (hW:RdAt 117 w.heap.size s1 W)=>mend_any w.heap.size s1 W hW)
 have hnf1:=nf1
 have hnf2:=nf2
 clear h hok hm
 by_cases hs:s1=some []
 ·subst hs
  have hend':=hid (fun W hW=>(show Calls Tryz.prog 46 #[.pointer (some ⟨w.heap.size,0,none⟩)] W fun e w'=>e=.returned (.int .i64 0)∧Pure W w' from by have:=hend.out W hW;rw [if_pos rfl] at this;exact this))
  clear hend
  have hZ:Z=({ S with tags:=tjoin S.tags R },0):=by rw [hA.out,if_pos rfl]
  subst hZ
  go_enter Tryz.func14,Tryz.ntmps14
  go_wp2_with (first
   | (go_at_call 44;refine hmr.out.mono ?_;rintro e w1 ⟨rfl,hr1,hp1⟩;have Hr1:=hid hr1;have Hp1:=hid hp1;have hn1:=Nat.lt_of_lt_of_le hlt.out hp1.size;have hm1:=Nat.lt_of_lt_of_le Hm.out hp1.size;clear hr1 hp1)
   | (go_at_call 45;refine (hrd.out _ Hr1.out).mono ?_;rintro e w2 ⟨p,q,v,rfl,hc⟩;have HC:=hid hc;have HP2:=hid (pure_box Hp1.out hc.k (Nat.le_refl _));clear hc)
   | (go_at_call 46;refine (hend'.out _ HC.out.r).mono ?_;rintro e w3 ⟨rfl,hp3⟩;have HP3:=hid (HP2.out.then_ hp3);have HC3:=hid (HC.out.pure hp3);clear hp3)
   | (go_at_call 93;refine (sclos_N n m _ p q v S R _ _ _ (H.out.pure HP3.out) HC3.out hn1 hm1 Hok.out).mono ?_;rintro e w5 ⟨rfl,hs5,hk5⟩;have HS5:=hid hs5;have HK5:=hid hk5;clear hs5 hk5))
  go_ret
  exact ⟨rfl,HS5.out,(Pure.kept HP3.out).trans HK5.out⟩
 ·have hend':=hid (fun W hW=>(show Calls Tryz.prog 46 #[.pointer (some ⟨w.heap.size,0,none⟩)] W fun e w'=>e=.returned (.int .i64 10)∧Pure W w' from by have:=hend.out W hW;rw [if_neg hs] at this;exact this))
  have hZ:Z=(S,10):=by rw [hA.out,if_neg hs]
  subst hZ
  clear hend hs
  go_enter Tryz.func14,Tryz.ntmps14
  go_wp2_with (first
   | (go_at_call 44;refine hmr.out.mono ?_;rintro e w1 ⟨rfl,hr1,hp1⟩;have Hr1:=hid hr1;have Hp1:=hid hp1;clear hr1 hp1)
   | (go_at_call 45;refine (hrd.out _ Hr1.out).mono ?_;rintro e w2 ⟨p,q,v,rfl,hc⟩;have HC:=hid hc;have HP2:=hid (pure_box Hp1.out hc.k (Nat.le_refl _));clear hc)
   | (go_at_call 46;refine (hend'.out _ HC.out.r).mono ?_;rintro e w3 ⟨rfl,hp3⟩;have HP3:=hid (HP2.out.then_ hp3);clear hp3))
  go_ret
  exact ⟨rfl,H.out.pure HP3.out,Pure.kept HP3.out⟩
def apV (S:SD) (l:List UInt8):SD × Int:=if (rdView (some l)).2=some [] then ({ S with view:=vjoin S.view (rdView (some l)).1 },0) else (S,10)
theorem sapply_V (n m:Nat) (S:SD) (l:List UInt8) (w:World) (h:St2 n m S w) (hm:m<w.heap.size) (hk:VV S.view) :
 Calls Tryz.prog 14 #[.pointer (some ⟨n,0,none⟩),.string (bs (86::l))] w fun e w'=>e=.returned (.int .i64 (apV S l).2)∧St2 n m (apV S l).1 w'∧Kept (fun k=>k=n) w w':=by
 have hlt:=hid h.lt
 have H:=hid h
 have Hm:=hid hm
 have hok:=rdView_ok (some l)
 have Hok:=hid hok
 have hmr:=hid (mread_any l w)
 have hrd:=hid (fun W (hW:RdAt 117 w.heap.size (some l) W)=>sread_V n w.heap.size (some l) W hW)
 have hx1:(bs (86::l)).extract 0 1=⟨#[86]⟩:=by
  rw [bs_take];rfl
 have hx2:(bs (86::l)).extract 1 (l.length+1)=bs l:=by
  rw [bs_drop _ _ _ qb];rfl
 have hsz:(bs (86::l)).size=l.length+1:=by rw [bs_size];simp
 have hne:((bs (86::l)).toList=[])=False:=by rw [bs_list1];simp
 have hne2:((bs (86::l)).toList == [])=false:=by rw [bs_list1];rfl
 have hA:=qh (apV S l=if (rdView (some l)).2=some [] then ({ S with view:=vjoin S.view (rdView (some l)).1 },0) else (S,10)) (rfl)
 generalize apV S l=Z at *
 generalize rdView (some l)=RR at *
 obtain ⟨R,s1⟩:=RR
 dsimp only at hrd hA hok
 have hend:=hid (fun W (hW:RdAt 117 w.heap.size s1 W)=>mend_any w.heap.size s1 W hW)
 have hnf1:=nf1
 have hnf2:=nf2
 clear h hok hm
 by_cases hs:s1=some []
 ·subst hs
  have hend':=hid (fun W hW=>(show Calls Tryz.prog 46 #[.pointer (some ⟨w.heap.size,0,none⟩)] W fun e w'=>e=.returned (.int .i64 0)∧Pure W w' from by have:=hend.out W hW;rw [if_pos rfl] at this;exact this))
  clear hend
  have hZ:Z=({ S with view:=vjoin S.view R },0):=by rw [hA.out,if_pos rfl]
  subst hZ
  go_enter Tryz.func14,Tryz.ntmps14
  go_wp2_with (first
   | (go_at_call 44;refine hmr.out.mono ?_;rintro e w1 ⟨rfl,hr1,hp1⟩;have Hr1:=hid hr1;have Hp1:=hid hp1;have hn1:=Nat.lt_of_lt_of_le hlt.out hp1.size;have hm1:=Nat.lt_of_lt_of_le Hm.out hp1.size;clear hr1 hp1)
   | (go_at_call 45;refine (hrd.out _ Hr1.out).mono ?_;rintro e w2 ⟨p,q,v,rfl,hc⟩;have HC:=hid hc;have HP2:=hid (pure_box Hp1.out hc.k (Nat.le_refl _));clear hc)
   | (go_at_call 46;refine (hend'.out _ HC.out.r).mono ?_;rintro e w3 ⟨rfl,hp3⟩;have HP3:=hid (HP2.out.then_ hp3);have HC3:=hid (HC.out.pure hp3);clear hp3)
   | (go_at_call 96;refine (sclos_V n m _ p q v S R _ _ _ (H.out.pure HP3.out) HC3.out hn1 hm1 hk Hok.out).mono ?_;rintro e w5 ⟨rfl,hs5,hk5⟩;have HS5:=hid hs5;have HK5:=hid hk5;clear hs5 hk5))
  go_ret
  exact ⟨rfl,HS5.out,(Pure.kept HP3.out).trans HK5.out⟩
 ·have hend':=hid (fun W hW=>(show Calls Tryz.prog 46 #[.pointer (some ⟨w.heap.size,0,none⟩)] W fun e w'=>e=.returned (.int .i64 10)∧Pure W w' from by have:=hend.out W hW;rw [if_neg hs] at this;exact this))
  have hZ:Z=(S,10):=by rw [hA.out,if_neg hs]
  subst hZ
  clear hend hs
  go_enter Tryz.func14,Tryz.ntmps14
  go_wp2_with (first
   | (go_at_call 44;refine hmr.out.mono ?_;rintro e w1 ⟨rfl,hr1,hp1⟩;have Hr1:=hid hr1;have Hp1:=hid hp1;clear hr1 hp1)
   | (go_at_call 45;refine (hrd.out _ Hr1.out).mono ?_;rintro e w2 ⟨p,q,v,rfl,hc⟩;have HC:=hid hc;have HP2:=hid (pure_box Hp1.out hc.k (Nat.le_refl _));clear hc)
   | (go_at_call 46;refine (hend'.out _ HC.out.r).mono ?_;rintro e w3 ⟨rfl,hp3⟩;have HP3:=hid (HP2.out.then_ hp3);clear hp3))
  go_ret
  exact ⟨rfl,H.out.pure HP3.out,Pure.kept HP3.out⟩
def apH (S:SD) (l:List UInt8):SD × Int:=if (rdHolds (some l)).2=some [] then ({ S with holds:=(rdHolds (some l)).1 },0) else (S,10)
theorem sapply_H (n m:Nat) (S:SD) (l:List UInt8) (w:World) (h:St2 n m S w) (hm:m<w.heap.size)  :
 Calls Tryz.prog 14 #[.pointer (some ⟨n,0,none⟩),.string (bs (72::l))] w fun e w'=>e=.returned (.int .i64 (apH S l).2)∧St2 n m (apH S l).1 w'∧Kept (fun k=>k=n) w w':=by
 have hlt:=hid h.lt
 have H:=hid h
 have Hm:=hid hm
 have hok:=True.intro
 have Hok:=hid hok
 have hmr:=hid (mread_any l w)
 have hrd:=hid (fun W (hW:RdAt 117 w.heap.size (some l) W)=>sread_H n w.heap.size (some l) W hW)
 have hx1:(bs (72::l)).extract 0 1=⟨#[72]⟩:=by
  rw [bs_take];rfl
 have hx2:(bs (72::l)).extract 1 (l.length+1)=bs l:=by
  rw [bs_drop _ _ _ qb];rfl
 have hsz:(bs (72::l)).size=l.length+1:=by rw [bs_size];simp
 have hne:((bs (72::l)).toList=[])=False:=by rw [bs_list1];simp
 have hne2:((bs (72::l)).toList == [])=false:=by rw [bs_list1];rfl
 have hA:=qh (apH S l=if (rdHolds (some l)).2=some [] then ({ S with holds:=(rdHolds (some l)).1 },0) else (S,10)) (rfl)
 generalize apH S l=Z at *
 generalize rdHolds (some l)=RR at *
 obtain ⟨R,s1⟩:=RR
 dsimp only at hrd hA hok
 have hend:=hid (fun W (hW:RdAt 117 w.heap.size s1 W)=>mend_any w.heap.size s1 W hW)
 have hnf1:=nf1
 have hnf2:=nf2
 clear h hok hm
 by_cases hs:s1=some []
 ·subst hs
  have hend':=hid (fun W hW=>(show Calls Tryz.prog 46 #[.pointer (some ⟨w.heap.size,0,none⟩)] W fun e w'=>e=.returned (.int .i64 0)∧Pure W w' from by have:=hend.out W hW;rw [if_pos rfl] at this;exact this))
  clear hend
  have hZ:Z=({ S with holds:=R },0):=by rw [hA.out,if_pos rfl]
  subst hZ
  go_enter Tryz.func14,Tryz.ntmps14
  go_wp2_with (first
   | (go_at_call 44;refine hmr.out.mono ?_;rintro e w1 ⟨rfl,hr1,hp1⟩;have Hr1:=hid hr1;have Hp1:=hid hp1;have hn1:=Nat.lt_of_lt_of_le hlt.out hp1.size;have hm1:=Nat.lt_of_lt_of_le Hm.out hp1.size;clear hr1 hp1)
   | (go_at_call 45;refine (hrd.out _ Hr1.out).mono ?_;rintro e w2 ⟨p,q,v,rfl,hc⟩;have HC:=hid hc;have HP2:=hid (pure_box Hp1.out hc.k (Nat.le_refl _));clear hc)
   | (go_at_call 46;refine (hend'.out _ HC.out.r).mono ?_;rintro e w3 ⟨rfl,hp3⟩;have HP3:=hid (HP2.out.then_ hp3);have HC3:=hid (HC.out.pure hp3);clear hp3)
   | (go_at_call 99;refine (sclos_H n m _ p q v S R _ _ _ (H.out.pure HP3.out) HC3.out hn1 hm1).mono ?_;rintro e w5 ⟨rfl,hs5,hk5⟩;have HS5:=hid hs5;have HK5:=hid hk5;clear hs5 hk5))
  go_ret
  exact ⟨rfl,HS5.out,(Pure.kept HP3.out).trans HK5.out⟩
 ·have hend':=hid (fun W hW=>(show Calls Tryz.prog 46 #[.pointer (some ⟨w.heap.size,0,none⟩)] W fun e w'=>e=.returned (.int .i64 10)∧Pure W w' from by have:=hend.out W hW;rw [if_neg hs] at this;exact this))
  have hZ:Z=(S,10):=by rw [hA.out,if_neg hs]
  subst hZ
  clear hend hs
  go_enter Tryz.func14,Tryz.ntmps14
  go_wp2_with (first
   | (go_at_call 44;refine hmr.out.mono ?_;rintro e w1 ⟨rfl,hr1,hp1⟩;have Hr1:=hid hr1;have Hp1:=hid hp1;clear hr1 hp1)
   | (go_at_call 45;refine (hrd.out _ Hr1.out).mono ?_;rintro e w2 ⟨p,q,v,rfl,hc⟩;have HC:=hid hc;have HP2:=hid (pure_box Hp1.out hc.k (Nat.le_refl _));clear hc)
   | (go_at_call 46;refine (hend'.out _ HC.out.r).mono ?_;rintro e w3 ⟨rfl,hp3⟩;have HP3:=hid (HP2.out.then_ hp3);clear hp3))
  go_ret
  exact ⟨rfl,H.out.pure HP3.out,Pure.kept HP3.out⟩
end Go.Proofs.YtdlpnhfgjficgaaGreat
