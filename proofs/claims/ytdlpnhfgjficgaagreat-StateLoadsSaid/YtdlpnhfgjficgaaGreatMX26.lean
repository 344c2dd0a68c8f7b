import Derived.Test.YtdlpnhfgjficgaaGreatMPj
import Derived.Test.YtdlpnhfgjficgaaGreatMPe
import Derived.Shelf.SlIterI.Collect
namespace Go.Proofs.YtdlpnhfgjficgaaGreat
section
set_option maxHeartbeats 2000000
set_option maxRecDepth 8000
open Go.RowKit Go.Maps Go.Shelf Go.Sort
theorem len_tr (l:List Int):(tr l).length=l.length:=by simp [tr]
theorem keys_tr (l:List Int):(tr l).map (·.1)=l:=by unfold tr;rw [List.map_map];exact List.map_id l
theorem mput_tr_mem (l:List Int) (k:Int) (h:k ∈ l):mput (tr l) k true=tr l:=by
 induction l with
 | nil=>simp at h
 | cons a l ih =>
   simp only [tr,List.map_cons,mput] at *
   by_cases e:a=k
   ·subst e;simp
   ·rw [if_neg (by simpa using e),ih (by rcases List.mem_cons.1 h with h|h;exact absurd h.symm e;exact h)]
theorem mput_dd (l:List Int) (k:Nat) (h:k<l.length):mput (tr (dd (l.take k))) (l.getD k 0) true=tr (dd (l.take (k+1))):=by
 rw [dd_take l k h]
 split
 ·rename_i hm;exact mput_tr_mem _ _ hm
 ·rename_i hm;exact mput_tr _ _ hm
theorem map_getD_fst (L:List Dot) (k:Nat) (h:k<L.length):(L.map (·.1)).getD k 0=(L.getD k (0,0)).1:=by simp [List.getD,h]
theorem ddo_spec:∀(l acc:List Int),acc.Nodup→(ddo acc l).Nodup∧∀x,x ∈ ddo acc l↔x ∈ acc∨x ∈ l
 | [],acc,h=>⟨h,by simp [ddo]⟩
 | a::l,acc,h=>by
   unfold ddo
   by_cases ha:a ∈ acc
   ·rw [if_pos ha]
    obtain ⟨h1,h2⟩:=ddo_spec l acc h
    refine ⟨h1,fun x=>(h2 x).trans ?_⟩
    simp only [List.mem_cons]
    constructor
    ·rintro (h|h)
     ·exact .inl h
     ·exact .inr (.inr h)
    ·rintro (h|rfl|h)
     ·exact .inl h
     ·exact .inl ha
     ·exact .inr h
   ·rw [if_neg ha]
    obtain ⟨h1,h2⟩:=ddo_spec l (acc++[a]) (by rw [List.nodup_append];exact ⟨h,by simp,fun x hx y hy e=>ha (by simp at hy;rw [←hy,←e];exact hx)⟩)
    refine ⟨h1,fun x=>(h2 x).trans ?_⟩
    simp [or_assoc]
theorem sorted_eq_i:∀{l k:List Int},l.Pairwise (·< ·)→k.Pairwise (·< ·)→(∀x,x ∈ l↔x ∈ k)→l=k
 | [],[],_,_,_=>rfl
 | [],b::k,_,_,h=>absurd ((h b).2 qb) qb
 | a::l,[],_,_,h=>absurd ((h a).1 qb) qb
 | a::l,b::k,h1,h2,h=>by
   obtain ⟨p1,p2⟩:=List.pairwise_cons.1 h1
   obtain ⟨q1,q2⟩:=List.pairwise_cons.1 h2
   have hab:a=b:=by
    rcases List.mem_cons.1 ((h a).1 qb) with e|e
    ·exact e
    ·rcases List.mem_cons.1 ((h b).2 qb) with e'|e'
     ·exact e'.symm
     ·have:=p1 b e';have:=q1 a e;omega
   subst hab
   congr 1
   refine sorted_eq_i p2 q2 (fun x=>?_)
   have hx:=h x
   simp only [List.mem_cons] at hx
   constructor
   ·intro hm
    rcases hx.1 (.inr hm) with e|e
    ·have:=p1 x hm;omega
    ·exact e
   ·intro hm
    rcases hx.2 (.inr hm) with e|e
    ·have:=q1 x hm;omega
    ·exact e
theorem srt_mem (l:List Int) (x:Int):x ∈ srt l↔x ∈ l:=by unfold srt;exact (List.mergeSort_perm l _).mem_iff
theorem srt_lt {l:List Int} (h:l.Nodup):(srt l).Pairwise (·< ·):=by
 have h1:(srt l).Pairwise (fun x y=>x≤y):=by
  have:=List.pairwise_mergeSort (le:=fun (x y:Int)=>decide (x≤y)) (by intro a b c;simp;omega) (by intro a b;simp;omega) l
  exact this.imp (fun {a b} h=>by simpa using h)
 have h2:(srt l).Nodup:=(List.mergeSort_perm l _).nodup_iff.2 h
 exact (h1.and h2).imp (fun {a b} h=>by have:=h.1;have:=h.2;omega)
theorem srt_nodes (B C:List Dot):srt (dd ((B++C).map (·.1)))=cnodes B C:=by
 obtain ⟨h1,h2⟩:=cnodes_spec B C
 obtain ⟨g1,g2⟩:=ddo_spec ((B++C).map (·.1)) [] List.nodup_nil
 refine sorted_eq_i (srt_lt g1) h1 (fun x=>?_)
 rw [srt_mem,h2]
 refine (g2 x).trans ?_
 simp only [List.not_mem_nil,false_or,List.mem_map,List.mem_append]
def NdP (B C:List Dot) (w:World) (e:Ending) (w' : World):Prop:=∃v',e=.returned v'∧w'.ownsRow w.heap.size 3 1 v' (cnodes B C).length ((cnodes B C).map (Value.int .i64))∧Pure w w'
theorem nodes_any (vb vc:Value) (B C:List Dot) (w:World) (hB:Dots w vb B) (hC:Dots w vc C) (hl1:B.length≤100000) (hl2:C.length≤100000) (hwf:∀d ∈ B++C,(Lit.int .i64 d.1).wf=true) :
 Calls Tryz.prog 185 #[cv vb vc] w (NdP B C w):=by
 obtain ⟨W1,hW1⟩:=qe (((w.alloc (.cells #[vb,vc] 32)).alloc (.map #[] 0)).alloc (.cells #[vb,vc] 30))
 have Hp1:=qh (Pure w W1) (by rw [hW1];exact (qp.alloc qb _).alloc qc _)
 have hs1:W1.heap.size=w.heap.size+3:=by rw [hW1];simp
 have hm1:IMap Value.bool W1 (w.heap.size+1) (tr (dd [])):=by
  have:=IMap.made Value.bool (w.alloc (.cells #[vb,vc] 32))
  rw [hW1]
  have h2:=IMap.pure this ((Below.refl _ _).alloc (Nat.le_refl _) (.cells #[vb,vc] 30))
  have e:tr (dd [])=[]:=rfl
  rw [e]
  simpa using h2
 have hb2:W1.heap[w.heap.size+2]?=some (.cells #[vb,vc] 30 (0,0)):=by
  rw [hW1]
  have:=ban ((w.alloc (.cells #[vb,vc] 32)).alloc (.map #[] 0)) (.cells #[vb,vc] 30)
  simpa using this
 have c0:W1.cell? ⟨w.heap.size+2,0,none⟩=some vb:=cob hb2 0
 have c1:W1.cell? ⟨w.heap.size+2,1,none⟩=some vc:=cob hb2 1
 have Hcc:=hid (fun cp=>concatd_any (w.heap.size+2) cp vb vc B C W1 c0 c1 (Row.pure hB Hp1.out) (Row.pure hC Hp1.out) hl1 hl2 oe)
 obtain ⟨a0,q0,rfl⟩:=hB.shape
 obtain ⟨a1,q1,rfl⟩:=hC.shape
 have Hm1:=hid hm1
 have Hs1:=hid hs1
 have hx0:(w.alloc (.cells #[.slice a0 B.length q0,.slice a1 C.length q1] 32)).cell? ⟨w.heap.size,0,none⟩=some (.slice a0 B.length q0):=by rw [World.cell?_alloc_new];simp
 have hx1:(w.alloc (.cells #[.slice a0 B.length q0,.slice a1 C.length q1] 32)).cell? ⟨w.heap.size,1,none⟩=some (.slice a1 C.length q1):=by rw [World.cell?_alloc_new];simp
 clear hB hC hm1 hb2 c0 c1 hs1
 unfold cv
 have hmm:=@run_makeMap Tryz.prog
 have Hwf:=hid (fun k (hk:k<(B++C).length)=>(show (Lit.int .i64 (((B++C).map (·.1)).getD k 0)).wf=true from by
  rw [map_getD_fst _ _ hk];exact hwf _ (getD_mem_d hk)))
 have Hput:=hid (fun k (hk:k<(B++C).length)=>mput_dd ((B++C).map (·.1)) k (by simpa using hk))
 have Hget:=hid (fun k (hk:k<(B++C).length)=>(show ((B++C).map (·.1)).getD k 0=((B++C).getD k (0,0)).1 from map_getD_fst _ _ hk))
 have hcat:(B++C).length≤200000:=by simp;omega
 have Hnod:=hid (srt_nodes B C)
 have Hbdd:=hid (dd_len ((B++C).map (·.1)))
 rw [List.length_map] at Hbdd
 clear hwf
 generalize hL:B++C=L at *
 clear hL
 go_enter Tryz.func185,Tryz.ntmps185
 go_wp2_with fail
 rw [←hW1]
 clear hW1 hx0 hx1 hmm
 refine (Hcc.out _).mono ?_
 rintro e w2 ⟨v2,rfl,hown,hp2⟩
 have Hp2:=hid hp2
 have Hrow:=qh (Dots w2 v2 L) (Row.of_own hown)
 have Hblk:=hid (fun k (hk:v2.rb=some k)=>(hown.lt k (rb_own hk)).1)
 have Hm2:=qh (IMap Value.bool w2 (w.heap.size+1) (tr (dd []))) (Hm1.out.pure hp2)
 obtain ⟨a2,q2,rfl⟩:=osd hown
 clear hown hp2 Hcc
 go_wp2
 go_loopw [14] (fun i wr=>∃k:Nat,k≤L.length∧i=.int .i64 k∧IMap Value.bool wr (w.heap.size+1) (tr (dd ((L.map (·.1)).take k)))∧Kept (fun j=>j=w.heap.size+1) w2 wr) (fun i _=>L.length-(RowKit.intOf i).toNat)
 case atStart=>exact ⟨0,Nat.zero_le _,rfl,Hm2.out,Kept.refl _ _⟩
 case round =>
  obtain ⟨k,hk,rfl,hmap,hkp⟩:=hrel
  have Hkp:=hid hkp
  have Hmap:=hid hmap
  by_cases hlt:k<L.length
  ·obtain ⟨b,off,rfl,hb0,x0,x1⟩:=Dots.get (show Dots wr (.slice a2 L.length q2) L from Row.kept Hrow.out hkp (fun j hj e=>by have:=Hblk.out j hj;have:=Hs1.out;omega)) hlt
   have hlt' : (k:Int)<(L.length:Int):=by omega
   have Hp:=hid (Hput.out k hlt)
   have hw:=Hwf.out k hlt
   rw [Hget.out k hlt] at Hp hw
   generalize L.getD k (0,0)=z at *
   obtain ⟨z1,z2⟩:=z
   dsimp only at x0 x1 hw Hp
   have Hma:=hid (hmap.pure (show Pure wr (wr.alloc (.cells #[.int .i64 z1,.int .i64 z2] 28)) from qp))
   clear hmap hkp hb0
   go_wp2_with (at_mapUpdate;refine wpList_put Value.bool _ rfl _ _ _ 204 rfl 3 4 Tryz.underlying3 Tryz.underlying204 (w.heap.size+1) (tr (dd ((L.map (·.1)).take k))) rfl Hma.out z1 hw true rfl rfl ?_;intro w3 hmap3 hg3 hs3;have Hmap3:=hid hmap3;have Hg3:=hid hg3;clear hmap3 hg3 hs3)
   go_roundw
   case rel=>exact ⟨k+1,by omega,by go_num,by rw [←Hp.out];exact Hmap3.out,(Hkp.out.alloc _).grown Hg3.out (fun j hj _=>by cases hj;rfl)⟩
   case measure=>simp [RowKit.intOf];omega
  ·obtain rfl:k=L.length:=by omega
   have hlt' : ¬(L.length:Int)<(L.length:Int):=by omega
   rw [List.take_of_length_le qb] at Hmap
   have Hk:=hid (keys_call (some (w.heap.size+1)) wr)
   have hs:=sorted_call Value.bool (w.heap.size+1) (tr (dd (L.map (·.1)))) wr Hmap.out (by rw [len_tr];have:=Hbdd.out;omega)
   rw [keys_tr,Hnod.out] at hs
   have Hs:=hid hs
   clear hs hmap hkp
   go_wp2_with fail
   refine Hk.out.mono ?_
   rintro e w3 ⟨rfl,rfl⟩
   go_wp2_with fail
   refine Hs.out.mono ?_
   rintro e w4 ⟨v4,rfl,hown4,hp4⟩
   have hq:w.heap.size≤wr.heap.size:=by have:=Hkp.out.size;have:=Hp2.out.size;have:=Hs1.out;omega
   have Hown4:=hid (own_mono hown4 hq)
   have Hp4:=qh (Pure w w4) (by
    have h1:Kept (fun j=>w.heap.size≤j) w w2:=(Hp1.out.then_ Hp2.out).kept
    have h2:Kept (fun j=>w.heap.size≤j) w w4:=(h1.trans (Hkp.out.mono (fun j _ e=>by omega))).trans hp4.kept
    exact h2.below (Nat.le_refl _) (fun j hj e=>by omega))
   obtain ⟨a4,q4,rfl⟩:=(Row.of_own hown4).shape
   clear hown4 hp4 hq
   go_wp2
   go_ret
   exact ⟨_,rfl,Hown4.out,Hp4.out⟩
end
section
set_option maxHeartbeats 1000000
set_option maxRecDepth 100000
open Go.RowKit Go.Maps Go.Sort Go.Shelf
theorem pv_inj {p q:Pr} (h:pv p=pv q):p=q:=by
 obtain ⟨a,b,c⟩:=p
 obtain ⟨x,y,z⟩:=q
 simp [pv] at h
 obtain ⟨rfl,rfl,rfl⟩:=h
 rfl
open Classical in
noncomputable def peerR (v:Value):Option (DataW Pr × List MemPlace):=if h:∃p,v=pv p then some (.held h.choose,[]) else none
theorem peerR_pv (p:Pr):peerR (pv p)=some (.held p,[]):=by
 have h:∃q,pv p=pv q:=⟨p,rfl⟩
 unfold peerR
 rw [dif_pos h]
 have:=pv_inj h.choose_spec
 rw [←this]
theorem peerR_inv {v:Value} {y:DataW Pr × List MemPlace} (h:peerR v=some y):∃p,v=pv p:=by
 unfold peerR at h
 split at h
 ·assumption
 ·cases h
theorem IMap.ownsP {w:World} {b:Nat} {m:List (Int × Pr)} {P:Program} {kt:TypeId} (hk:P.underlying kt=some (.int .i64)) (h:IMap pv w b m) (hl:m.length≤maxLen) :
 ∃D:DataW Pr,w.ownsMap P kt peerR b m.length D∧(intKeys D).Perm (m.map (·.1))∧Maps.size D=m.length∧(m.map (·.1)).Nodup∧∀p ∈ m,∀zd,D.atKey (.int .i64 p.1) zd=.held p.2:=by
 obtain ⟨es,clock,hb,hst,hwf,he⟩:=h
 have hlen:es.size=m.length:=by have:=congrArg List.length he;simpa using this
 have hks:=IMap.keysOf hk hwf he
 have hrd:∀(l:List MapEntry) (k:List (Int × Pr)),l.map (fun x=>(x.key,x.val))=k.map (fun p=>(Value.int .i64 p.1,pv p.2))→(∀p ∈ k,(Lit.int .i64 p.1).wf=true)→l.map (WideElems.rg P kt peerR)=k.map (fun p=>(Lit.int .i64 p.1,DataW.held p.2))∧∀x ∈ l,∃y,WideElems.rd P kt peerR x=some y:=by
  intro l
  induction l with
  | nil=>intro k hk' _;cases k with
    | nil=>exact ⟨rfl,by simp⟩
    | cons _ _=>simp at hk'
  | cons x l ih =>
    intro k hk' hw
    cases k with
    | nil=>simp at hk'
    | cons p k =>
      simp only [List.map_cons,List.cons.injEq,Prod.mk.injEq] at hk' ⊢
      obtain ⟨i1,i2⟩:=ih k hk'.2 (fun q hq=>hw q (by simp [hq]))
      have:=keyOf_int_mk hk (hw p qb)
      have hx:WideElems.rd P kt peerR x=some (Lit.int .i64 p.1,DataW.held p.2):=by simp [WideElems.rd,hk'.1.1,hk'.1.2,this,peerR_pv]
      refine ⟨⟨by simp [WideElems.rg,hx],i1⟩,fun u hu=>?_⟩
      rcases List.mem_cons.1 hu with rfl|hu
      ·exact ⟨_,hx⟩
      ·exact i2 u hu
 obtain ⟨hrg,hrds⟩:=hrd _ _ he hwf
 have hnd:(m.map (·.1)).Nodup:=by
  have h2:=hst.2.2
  have e1:es.toList.map (·.key)=m.map (fun p=>Value.int .i64 p.1):=by
   have:=congrArg (List.map (·.1)) he
   simpa [List.map_map,Function.comp_def] using this
  rw [e1] at h2
  refine List.pairwise_map.2 ((List.pairwise_map.1 h2).imp ?_)
  intro a c hne e
  exact hne (by rw [e])
 have F:WideElems.Fit P kt peerR es clock:=⟨by omega,hst,hrds⟩
 have hperm:=WideShapes.sorted_perm (es.toList.map (WideElems.rg P kt peerR))
 refine ⟨_,⟨es,clock,hb,F,by omega,rfl⟩,?_,by simp [Maps.size,length_sorted,hlen],hnd,fun p hp zd=>?_⟩
 ·show (((es.toList.map (WideElems.rg P kt peerR)).foldr DataW.insert []).map fun p=>Go.intOf p.1).Perm _
  refine (hperm.map _).trans ?_
  rw [hrg,List.map_map]
  exact List.Perm.refl _
 ·refine WideAt.atKey_mem zd trivial ?_ (hperm.mem_iff.2 (by rw [hrg];exact List.mem_map.2 ⟨p,hp,rfl⟩))
  refine (hperm.pairwise_iff (fun {a b} h=>fun e=>h e.symm)).2 ?_
  rw [hrg,List.pairwise_map]
  refine List.Pairwise.imp ?_ (List.pairwise_map.1 hnd)
  intro a c hne e
  exact hne (by simpa using e)
def CameAt (D0:DataW Pr) (p:Int × Pr):Prop:=∀zd,D0.atKey (.int .i64 p.1) zd=.held p.2
def datP (D:DataW Pr) (k:Int):Pr:=match D.atKey (.int .i64 k) .nil with
 | .held p=>p
 | _=>p0
theorem datP_at {D:DataW Pr} {p:Int × Pr} (h:CameAt D p):datP D p.1=p.2:=by unfold datP;rw [h .nil]
theorem map_datP {D:DataW Pr} {ps:List (Int × Pr)} (h:∀p ∈ ps,CameAt D p):ps.map (·.2)=(ps.map (·.1)).map (datP D):=by
 rw [List.map_map]
 exact List.map_congr_left (fun p hp=>(datP_at (h p hp)).symm)
theorem came_perm {m ps:List (Int × Pr)} {D:DataW Pr} (hp:(ps.map (·.1)).Perm (m.map (·.1))) (hm:∀p ∈ m,CameAt D p) (hc:∀p ∈ ps,CameAt D p):(ps.map (·.2)).Perm (m.map (·.2)):=by
 rw [map_datP hm,map_datP hc]
 exact hp.map _
theorem values1_in (F:Fence) (n:Nat) (h10:F.fn 196) (hro:F.round=none) (hn:1≤n) (l Bm b nn:Nat) (D0:DataW Pr) (J:List Pr→World→Prop)
 (hY:∀pre x W,J pre W→pre.length<Maps.size D0→YieldAt F (n-1) Tryz.prog l #[pv x] W fun e W'=>e=.returned (.bool true)∧J (pre++[x]) W'∧KeepsWalks W W')
 (W:World) (hJ:AbidesFrom W.heap.size J) (hm:W.cell? ⟨Bm,0,none⟩=some (.map (some b))) (hown:W.ownsMap Tryz.prog 3 peerR b nn D0) (h0:J [] W) :
 CallsIn F n Tryz.prog 196 #[.func (.yield l) #[] #[],.pointer (some ⟨Bm,0,none⟩)] W fun e W'=>(∃v,e=.returned v)∧∃ps:List (Int × Pr),(ps.map (·.1)).Perm (intKeys D0)∧(∀p ∈ ps,CameAt D0 p)∧J (ps.map (·.2)) W':=by
 refine callsIn_of_wp Tryz.func196 rfl h10 ?_ hro
 simp only [Tryz.ntmps196,List.size_toArray,List.length_cons,List.length_nil,Nat.reduceAdd,Nat.reduceSub,Array.replicate_succ,Array.replicate_zero,List.push_toArray,List.append_toArray,List.nil_append,List.cons_append]
 gi_wp2_with (first
  | (gi_at_range;refine wpListIn_range_own _ rfl _ 160 rfl 3 92 (int_keyed Tryz.underlying3) Tryz.underlying160 _ b nn _ rfl hown ?_;intro w0 hrg0 hg0 hs0)
  | gi_in)
 go_frame
 gi_loopw [4] (fun _ wr=>∃(left:Lit→Bool) (cnt:Nat) (ps:List (Int × Pr)),wr.ranges Tryz.prog 3 peerR b W.heap.size nn D0 left cnt∧ps.length+cnt≤Maps.size D0∧CollectedI D0 left (ps.map (·.1))∧(∀p ∈ ps,CameAt D0 p)∧J (ps.map (·.2)) wr)
  (fun _ wr=>wr.rangeLeft b W.heap.size)
 case atStart =>
  exact ⟨_,_,[],hrg0,by simp,CollectedI.start D0,by simp,hJ [] W w0 none h0 hg0 (fun r e=>by cases e)⟩
 case round =>
  obtain ⟨left,cnt,ps,hrg,hcs,hC,hV,hJs⟩:=hrel
  gi_wp2_with (first
   | (gi_at_next;refine wpListIn_next_ranges _ rfl _ rfl 3 (int_keyed Tryz.underlying3) peerR encZ pv (fun key kl hk=>by obtain ⟨x,hx,_⟩:=Maps.keyOf_i64 Tryz.underlying3 hk;exact ⟨x,hx⟩) (fun v y hv=>peerR_inv hv) b W.heap.size nn _ _ _ rfl hrg ?_ ?_)
   | gi_in)
  ·intro hc0 hl0
   gi_wp2
   go_end0
   exact ⟨⟨_,rfl⟩,ps,hC.perm hown (int_keyed Tryz.underlying3) Tryz.underlying3 hl0,hV,hJs⟩
  ·intro x c kl yd yp w2 cnt2 hkey hlk hv hat hrg2 hlt hg2 hs2 hen
   obtain ⟨x',ex,rfl,_⟩:=Maps.keyOf_i64 Tryz.underlying3 hkey
   obtain rfl:x=x':=encZ_inj ex
   rw [peerR_pv] at hv
   obtain rfl:yd=.held c:=by injection hv with hv;injection hv with h1 h2;exact h1.symm
   have hJ2:J (ps.map (·.2)) w2:=hJ _ wr w2 (some W.heap.size) hJs hg2 (fun r e=>by cases e;exact ⟨Nat.le_refl _,hrg.iter_walk⟩)
   have hJ3:∀o,J (ps.map (·.2)) (w2.alloc o):=fun o=>hJ _ w2 _ none hJ2 (World.grownBy_alloc _ _ _) (fun r e=>by cases e)
   have hY2:=fun o=>hY (ps.map (·.2)) c (w2.alloc o) (hJ3 o) qc
   obtain ⟨c1,c2,c3⟩:=c
   obtain ⟨fn,tmps,assign,body,hy,hR⟩:=hY2 (.cells #[.int .i64 c1,.int .i64 c2,.int .i64 c3] 92)
   clear hs2 hY2
   unfold pv at hy hen
   dsimp only at hy hen
   gi_wp2
   refine hR.mono ?_
   have hC2:CollectedI D0 (fun z=>left z && !z.sameKey (.int .i64 x)) ((ps++[(x,(⟨c1,c2,c3⟩ : Pr))]).map (·.1)):=by simpa using hC.step hlk hat
   have hV2:∀p ∈ ps++[(x,(⟨c1,c2,c3⟩ : Pr))],CameAt D0 p:=fun p hp=>(List.mem_append.1 hp).elim (hV p) (fun e=>by simp at e;subst e;exact hat)
   rintro e W3 ⟨rfl,hJ3,hk3⟩
   gi_wp2
   have hrg3:=(hrg2.of_walks (KeepsWalks.alloc _ _)).of_walks hk3
   go_roundw
   case rel=>exact ⟨_,cnt2,ps++[(x,(⟨c1,c2,c3⟩ : Pr))],hrg3,by simp;omega,hC2,hV2,by simpa using hJ3⟩
   case measure=>rw [hrg3.left_eq,hrg.left_eq];exact hlt
end
section
set_option maxHeartbeats 2000000
set_option maxRecDepth 100000
open Go.RowKit Go.Maps Go.Sort Go.Shelf
theorem cell_heap_eq {W W' : World} {b off:Nat} (h:W'.heap[b]?=W.heap[b]?):W'.cell? ⟨b,off,none⟩=W.cell? ⟨b,off,none⟩:=by simp [World.cell?,h]
def apAssignP:Code:=(Code.region 2 #[{ dst:=some 5,op:=Op.alloc 92,type:=0,pos:= "iter.go:51",after:=#[],guard:=none },{ dst:=none,op:=Op.store 92 (Operand.tmp 5) (Operand.tmp 7),type:=0,pos:= "iter.go:51",after:=#[{ on:=0,ground:=Ground.data },{ on:=0,ground:=Ground.phase }],guard:=none }] false)
def apBodyP:Code:=(Code.block 1 (Code.region 3 #[{ dst:=some 8,op:=Op.load 50 (Operand.tmp 2),type:=50,pos:= "iter.go:52",after:=#[],guard:=none },{ dst:=some 9,op:=Op.load 92 (Operand.tmp 5),type:=92,pos:= "iter.go:52",after:=#[],guard:=none },{ dst:=some 10,op:=Op.buildSlice 50 1 #[(0,Operand.tmp 9)],type:=50,pos:= "iter.go:52",after:=#[{ on:=1,ground:=Ground.data }],guard:=none },{ dst:=some 11,op:=Op.call { callee:=Callee.builtin Builtin.append,args:=#[Operand.tmp 8,Operand.tmp 10],argTypes:=#[50,50] },type:=50,pos:= "iter.go:52",after:=#[{ on:=0,ground:=Ground.data },{ on:=2,ground:=Ground.data }],guard:=none },{ dst:=none,op:=Op.store 50 (Operand.tmp 2) (Operand.tmp 11),type:=0,pos:= "iter.go:52",after:=#[{ on:=3,ground:=Ground.data },{ on:=3,ground:=Ground.chain },{ on:=0,ground:=Ground.phase },{ on:=1,ground:=Ground.phase },{ on:=2,ground:=Ground.phase },{ on:=3,ground:=Ground.phase }],guard:=none }] false))
def apRecP (fn:FuncId) (sv:Value) (Bs D:Nat) (st:LoopState) (pend:Option Code):Loop :=
 { state:=st,pending:=pend,fn,tmps:=#[.slice none 0 0,sv,.pointer (some ⟨Bs,0,none⟩),undef,.slice none 0 0,undef,sv,undef,undef,undef,undef,undef,undef],params:=#[7],assign:=apAssignP,body:=apBodyP,defers:=D }
structure ApAtP (w0:World) (fn:FuncId) (sv:Value) (Bs l D:Nat) (ss:List Pr) (W:World):Prop where
 box:∃v,W.heap[Bs]?=some (.cells #[v] 50 (0,0))∧W.ownsRow w0.heap.size 92 3 v ss.length (pvs ss)∧(v=.slice none 0 0↔ss=[])
 L:W.heap[l]?=some (.loop (apRecP fn sv Bs D .ready none))
 K:W.heap[D]?=some (.deferred (some []))
 below:Below w0.heap.size w0 W
theorem ap_abidesP (w0:World) (fn:FuncId) (sv:Value) (Bs l D B:Nat) (hB:w0.heap.size≤B):AbidesFrom B (ApAtP w0 fn sv Bs l D):=fun s W W' row h hg hrow=>by
 have hrow' : ∀r,row=some r→∃o:Obj,W.heap[r]?=some o∧o.isWalk=true:=fun r e=>(hrow r e).2
 obtain ⟨v,hv,hr,hn⟩:=h.box
 exact ⟨⟨v,(grownBy_keeps hg hrow' hv rfl).trans hv,ownsRow_abides_a hr hg hrow',hn⟩,(grownBy_keeps hg hrow' h.L rfl).trans h.L,(grownBy_keeps hg hrow' h.K rfl).trans h.K,
  h.below.grown hg h.below.size (fun k e=>Nat.le_trans hB (hrow k e).1)⟩
theorem apYieldP (F:Fence) (m:Nat) (w0:World) (fn:FuncId) (hfn:F.fn fn) (sv:Value) (Bs l D:Nat) (hBl:Bs≠l) (hDl:D≠l) (hDB:D≠Bs) (h0B:w0.heap.size≤Bs) (h0l:w0.heap.size≤l)
 (N:Nat) (hN:N≤maxLen) (hNb:N*24≤140737488355328) (ss:List Pr) (x:Pr) (W:World) (h:ApAtP w0 fn sv Bs l D ss W) (hlen:ss.length<N) :
 YieldAt F m Tryz.prog l #[pv x] W fun e W'=>e=.returned (.bool true)∧ApAtP w0 fn sv Bs l D (ss++[x]) W'∧KeepsWalks W W':=by
 obtain ⟨i0,hi,hz0,hz1,hz2⟩:=ipt infoPeer
 obtain ⟨v,hv,hrow,_⟩:=h.box
 obtain ⟨x1,x2,x3⟩:=x
 unfold pv
 dsimp only
 refine ⟨fn,#[.slice none 0 0,sv,.pointer (some ⟨Bs,0,none⟩),undef,.slice none 0 0,undef,sv,.agg #[.int .i64 x1,.int .i64 x2,.int .i64 x3],undef,undef,undef,undef,undef],apAssignP,apBodyP,by simpa [apRecP] using run_yield (P:=Tryz.prog) (args:=#[.agg #[.int .i64 x1,.int .i64 x2,.int .i64 x3]]) h.L rfl,roundIn_of_wpIn hfn ?_⟩
 have hl:l<W.heap.size:=(Array.getElem?_eq_some_iff.1 h.L).1
 unfold apAssignP
 gi_wp2_with gi_round_op_a
 have hlit:=peer_lit W ⟨x1,x2,x3⟩
 dsimp only at hlit
 have hBltW:Bs<W.heap.size:=(Array.getElem?_eq_some_iff.1 hv).1
 have hDltW:D<W.heap.size:=(Array.getElem?_eq_some_iff.1 h.K).1
 obtain ⟨W1,hW1⟩ : ∃W1,W.alloc (.cells #[.int .i64 x1,.int .i64 x2,.int .i64 x3] 92)=W1:=⟨_,rfl⟩
 rw [hW1] at hlit
 rw [hW1]
 have hk1:KeepsWalks W W1:=by rw [←hW1];exact KeepsWalks.alloc _ _
 have hv1:W1.heap[Bs]?=some (.cells #[v] 50 (0,0)):=by rw [←hW1];exact (Below.heap_alloc _ _ Bs hBltW).trans hv
 have hK1:W1.heap[D]?=some (.deferred (some [])):=by rw [←hW1];exact (Below.heap_alloc _ _ D hDltW).trans h.K
 have hL1:W1.heap[l]?=some (.loop (apRecP fn sv Bs D .ready none)):=by rw [←hW1];exact (Below.heap_alloc _ _ l hl).trans h.L
 have hrow1:W1.ownsRow w0.heap.size 92 3 v ss.length (pvs ss):=by rw [←hW1];exact hrow.alloc _
 have hb1:Below w0.heap.size w0 W1:=by rw [←hW1];exact h.below.alloc h.below.size _
 have d0:W1.cell? ⟨W.heap.size,0,none⟩=some (.int .i64 x1):=hlit 0 _ rfl
 have d1:W1.cell? ⟨W.heap.size,1,none⟩=some (.int .i64 x2):=hlit 1 _ rfl
 have d2:W1.cell? ⟨W.heap.size,2,none⟩=some (.int .i64 x3):=hlit 2 _ rfl
 clear hlit hW1
 have hbr:=run_beginRound (P:=Tryz.prog) hL1 rfl
 obtain ⟨W2,hW2⟩ : ∃W2,W1.putObj l (.loop { apRecP fn sv Bs D .ready none with state:=.busy })=W2:=⟨_,rfl⟩
 rw [hW2] at hbr
 have hg2:W1.grownBy W2 (some l):=by rw [←hW2];exact grownBy_putObj_a _ _ _
 have hk2:KeepsWalks W W2:=by rw [←hW2];exact hk1.trans (KeepsWalks.putObj _ hL1 rfl)
 have hl1:l<W1.heap.size:=(Array.getElem?_eq_some_iff.1 hL1).1
 have hv2:W2.heap[Bs]?=some (.cells #[v] 50 (0,0)):=by rw [←hW2];exact (World.putObj_heap_other hBl).trans hv1
 have hK2:W2.heap[D]?=some (.deferred (some [])):=by rw [←hW2];exact (World.putObj_heap_other hDl).trans hK1
 have hL2:W2.heap[l]?=some (.loop { apRecP fn sv Bs D .ready none with state:=.busy }):=by rw [←hW2];exact World.putObj_heap_same hl1
 have hrow2:W2.ownsRow w0.heap.size 92 3 v ss.length (pvs ss):=hrow1.kept hg2 (ownsRow_ne_a hrow1 hL1 (fun cur e=>by cases e))
 have hb2:Below w0.heap.size w0 W2:=hb1.grown hg2 hb1.size (fun k e=>by cases e;exact h0l)
 have hnl:l≠W.heap.size:=by omega
 have e0:W2.cell? ⟨W.heap.size,0,none⟩=some (.int .i64 x1):=by rw [←hW2];exact (cell_heap_eq (World.putObj_heap_other (fun e=>hnl e.symm))).trans d0
 have e1:W2.cell? ⟨W.heap.size,1,none⟩=some (.int .i64 x2):=by rw [←hW2];exact (cell_heap_eq (World.putObj_heap_other (fun e=>hnl e.symm))).trans d1
 have e2:W2.cell? ⟨W.heap.size,2,none⟩=some (.int .i64 x3):=by rw [←hW2];exact (cell_heap_eq (World.putObj_heap_other (fun e=>hnl e.symm))).trans d2
 clear d0 d1 d2
 obtain ⟨hc2,hf2⟩:=cell_of_box_a hv2
 have hBlt:Bs<W2.heap.size:=(Array.getElem?_eq_some_iff.1 hv2).1
 have hl2:l<W2.heap.size:=(Array.getElem?_eq_some_iff.1 hL2).1
 have hDlt:D<W2.heap.size:=(Array.getElem?_eq_some_iff.1 hK2).1
 have ne_of:∀{j:Nat} {o:Obj},W2.heap[j]?=some o→(∀cur,o≠.cells cur 92 (0,0))→some j≠v.ownBlock:=fun hj hno=>by
  rcases ownsRow_ne_a hrow2 hj hno with e|e
  ·rw [e];simp
  ·exact fun e'=>e e'.symm
 clear hW2 hg2
 unfold apBodyP
 gi_wp2_with (first
  | (gi_at_builtin;refine wpListIn_append_own _ rfl _ _ 50 rfl w0.heap.size 92 i0 (.agg #[.int .i64 0,.int .i64 0,.int .i64 0]) 3 24 Tryz.underlying50 hi hz0 hz1 hz2 rfl qd _ _ _ rfl (hrow2.alloc _) ⟨W2.heap.size,0,none⟩ 1 1 (pcells ⟨x1,x2,x3⟩) rfl rfl (peer_lit W2 ⟨x1,x2,x3⟩) (pcells_one _) oe oe (by have:=hb2.size;simp;omega) ?_;intro v' w3 hown' hg3 hnil3
     have hv3:w3.heap[Bs]?=some (.cells #[v] 50 (0,0)):=(hg3.block Bs qc (ne_of hv2 (fun cur e=>by cases e))).trans ((Below.heap_alloc _ _ Bs hBlt).trans hv2)
     obtain ⟨hc3,hf3⟩:=cell_of_box_a hv3
     obtain ⟨g',cap',cur',rfl,hbase',hgb',hr1,hr2,hr3,hr4⟩ : ∃g' cap' cur',v' = .slice (some ⟨g',0,none⟩) (ss.length+1) cap'∧w0.heap.size≤g'∧w3.heap[g']?=some (.cells cur' 92 (0,0))∧ss.length+1≤cap'∧cap'≤maxLen∧cur'.size=cap' * 3∧cur'.toList.take ((ss.length+1)*3)=pvs ss++pcells ⟨x1,x2,x3⟩:=by
      rcases hown'.2 with ⟨_,h0⟩|h'
      ·exact absurd h0 oe
      ·exact h'
     go_frame)
  | gi_round_op_a)
 have hg3' : (W2.alloc (.cells #[.int .i64 x1,.int .i64 x2,.int .i64 x3] 92)).grownBy w3 v.ownBlock:=hg3
 have hL3:w3.heap[l]?=some (.loop { apRecP fn sv Bs D .ready none with state:=.busy }):=(hg3'.block l qc (ne_of hL2 (fun cur e=>by cases e))).trans ((Below.heap_alloc _ _ l hl2).trans hL2)
 have hK3:w3.heap[D]?=some (.deferred (some [])):=(hg3'.block D qc (ne_of hK2 (fun cur e=>by cases e))).trans ((Below.heap_alloc _ _ D hDlt).trans hK2)
 obtain ⟨w4,hw4⟩ : ∃w4,w3.setCell ⟨Bs,0,none⟩ (.slice (some ⟨g',0,none⟩) (ss.length+1) cap')=w4:=⟨_,rfl⟩
 rw [hw4]
 have hg4:w3.grownBy w4 (some Bs):=by rw [←hw4];exact grownBy_setCell0_a _ _ _
 have hv4:w4.heap[Bs]?=some (.cells #[.slice (some ⟨g',0,none⟩) (ss.length+1) cap'] 50 (0,0)):=by rw [←hw4];exact heap_setCell_box_a _ hv3
 have hL4:w4.heap[l]?=some (.loop { apRecP fn sv Bs D .ready none with state:=.busy }):=(hg4.block l (Array.getElem?_eq_some_iff.1 hL3).1 (fun e=>hBl (by cases e;rfl))).trans hL3
 have hK4:w4.heap[D]?=some (.deferred (some [])):=(hg4.block D (Array.getElem?_eq_some_iff.1 hK3).1 (fun e=>hDB (by cases e;rfl))).trans hK3
 have hrow4:=hown'.kept hg4 (ownsRow_ne_a hown' hv3 (fun cur e=>by cases e))
 have hl4:l<w4.heap.size:=(Array.getElem?_eq_some_iff.1 hL4).1
 have hb3:Below w0.heap.size w0 w3:=(hb2.alloc hb2.size _).grown hg3' (by have:=hb2.size;simp;omega) (fun k e=>(hrow2.lt k e).1)
 have hb4:Below w0.heap.size w0 w4:=hb3.grown hg4 hb3.size (fun k e=>by cases e;exact h0B)
 have hk4:KeepsWalks W w4:=((hk2.trans (KeepsWalks.alloc _ _)).trans (KeepsWalks.of_grownBy hg3' (ownsRow_not_walk_a (hrow2.alloc _)))).trans (by rw [←hw4];exact KeepsWalks.setCell _ _ _)
 clear hw4
 refine ⟨_,_,run_endRound none hL4,rfl,⟨⟨_,(World.putObj_heap_other hBl).trans hv4,?_,by simp⟩,World.putObj_heap_same hl4,(World.putObj_heap_other hDl).trans hK4,hb4.grown (grownBy_putObj_a _ _ _) hb4.size (fun k e=>by cases e;exact h0l)⟩,hk4.trans (KeepsWalks.putObj _ hL4 rfl)⟩
 have:=hrow4.kept (grownBy_putObj_a w4 l (.loop { { apRecP fn sv Bs D .ready none with state:=.busy } with state:=if (none:Option Code).isNone then .ready else .done,pending:=none })) (ownsRow_ne_a hrow4 hL4 (fun cur e=>by cases e))
 simpa [pvs_snoc] using this
theorem appendSeqP_in (F:Fence) (n:Nat) (h11:F.fn 214) (hro:F.round=none) (hn:2≤n) (g:Nat) (lb:Array Value) (hFg:F.fn g) (eg:∀args w,(callFunc g args).run Tryz.prog w=.ok (.enter g args) w)
 (S:List Pr→Prop) (N:Nat) (hN:N≤maxLen) (hNb:N*24≤140737488355328) (w:World) (hseq:SeqGives F (n-1) Tryz.prog g lb pv S N w) :
 CallsIn F n Tryz.prog 214 #[.slice none 0 0,.func (.func g) #[] lb] w fun e w'=>∃(v:Value) (ss:List Pr),e=.returned v∧S ss∧w'.ownsRow w.heap.size 92 3 v ss.length (pvs ss)∧(v=.slice none 0 0↔ss=[])∧Below w.heap.size w w':=by
 have h1:1≤n:=by omega
 refine callsIn_of_wp_marks Tryz.func214 rfl h11 ?_ hro
 simp only [Tryz.ntmps214,List.size_toArray,List.length_cons,List.length_nil,Nat.reduceAdd,Nat.reduceSub,Array.replicate_succ,Array.replicate_zero,List.push_toArray,List.append_toArray,List.nil_append,List.cons_append]
 gi_wp2
 refine wpIn_rangeFunc ?_
 intro fn hfn
 rw [hro]
 obtain ⟨W0,hW0⟩ : ∃W0,w.alloc (.cells #[.slice none 0 0] 50)=W0:=⟨_,rfl⟩
 have hs0:W0.heap.size=w.heap.size+1:=by rw [←hW0];simp
 have hv0:W0.heap[w.heap.size]?=some (.cells #[.slice none 0 0] 50 (0,0)):=by rw [←hW0];exact World.alloc_heap_new w _
 have hb0:Below w.heap.size w W0:=by rw [←hW0];exact (Below.refl _ w).alloc (Nat.le_refl _) _
 rw [hW0]
 obtain ⟨W1,hW1⟩ : ∃W1,(W0.alloc (.deferred (some []))).alloc (.loop (apRecP fn (.func (.func g) #[] lb) w.heap.size W0.heap.size .ready none))=W1:=⟨_,rfl⟩
 have hold:∀k,k<W0.heap.size→W1.heap[k]?=W0.heap[k]?:=fun k hk=>by
  rw [←hW1];exact (Below.heap_alloc _ _ k qc).trans (Below.heap_alloc _ _ k hk)
 have hb1:Below w.heap.size w W1:=by rw [←hW1];exact (hb0.alloc hb0.size _).alloc (by have:=hb0.size;simp;omega) _
 have hs1:W1.heap.size=W0.heap.size+2:=by rw [←hW1];simp
 have hM:ApAtP w fn (.func (.func g) #[] lb) w.heap.size (W0.heap.size+1) W0.heap.size [] W1 :=
  ⟨⟨_,(hold w.heap.size oe).trans hv0,⟨rfl,.inl ⟨rfl,rfl⟩⟩,by simp⟩,
   by rw [←hW1];have:=World.alloc_heap_new (W0.alloc (.deferred (some []))) (.loop (apRecP fn (.func (.func g) #[] lb) w.heap.size W0.heap.size .ready none));rwa [World.size_alloc] at this,
   by rw [←hW1];exact (Below.heap_alloc _ _ _ qb).trans (World.alloc_heap_new W0 _),hb1⟩
 refine ⟨W0.heap.size+1,[{ target:=.collected W0.heap.size,args:=#[] }],W1,{ target:=.fn (.func g) lb,args:=#[.func (.yield (W0.heap.size+1)) #[] #[]] },W1,g,
  #[.func (.yield (W0.heap.size+1)) #[] #[]]++lb,W1,?_,?_,?_,?_,fun _=>h1,?_⟩
 ·rw [←hW1];exact run_enterLoop_outer _ _ _ _ _
 ·simp [resolve,go_sem]
 ·intro f' hf';simp [Target.leads] at hf';subst hf';exact hFg
 ·simp [invoke,go_sem,eg]
 ·refine (hseq (W0.heap.size+1) (ApAtP w fn (.func (.func g) #[] lb) w.heap.size (W0.heap.size+1) W0.heap.size) W1 hb1 (ap_abidesP _ _ _ _ _ _ _ hb1.size)
   (fun pre x W hJ hl=>apYieldP F (n-1-1) w fn hfn _ w.heap.size (W0.heap.size+1) W0.heap.size oe oe oe (Nat.le_refl _) oe N hN hNb pre x W hJ hl) hM).mono ?_
  rintro e W2 ⟨⟨v0,rfl⟩,ss,hS,h2⟩
  obtain ⟨v,hv,hrow,hnil⟩:=h2.box
  have hend:=run_endLoop (P:=Tryz.prog) h2.L (by simp [apRecP])
  obtain ⟨W3,hW3⟩ : ∃W3,W2.putObj (W0.heap.size+1) (.loop { apRecP fn (.func (.func g) #[] lb) w.heap.size W0.heap.size .ready none with state:=.exhausted })=W3:=⟨_,rfl⟩
  rw [hW3] at hend
  have hg3:W2.grownBy W3 (some (W0.heap.size+1)):=by rw [←hW3];exact grownBy_putObj_a _ _ _
  have hv3:W3.heap[w.heap.size]?=some (.cells #[v] 50 (0,0)):=by rw [←hW3];exact (World.putObj_heap_other oe).trans hv
  have hK3:W3.heap[W0.heap.size]?=some (.deferred (some [])):=by rw [←hW3];exact (World.putObj_heap_other oe).trans h2.K
  have hrow3:=hrow.kept hg3 (ownsRow_ne_a hrow h2.L (fun cur e=>by cases e))
  have hb3:Below w.heap.size w W3:=h2.below.grown hg3 h2.below.size (fun k e=>by cases e;omega)
  obtain ⟨hc3,hf3⟩:=cell_of_box_a hv3
  clear hW3
  refine ⟨none,W3,hend,?_⟩
  gi_wp2
  rw [←hs0]
  refine ⟨by simp,.inl ⟨_,_,rfl,run_takeDeferred hK3,?_⟩⟩
  exact ⟨_,results_tmp rfl _ _ _,v,ss,rfl,hS,hrow3.kept (grownBy_putObj_a _ _ _) (ownsRow_ne_a hrow3 hK3 (fun cur e=>by cases e)),hnil,hb3.grown (grownBy_putObj_a _ _ _) hb3.size (fun k e=>by cases e;omega)⟩
theorem collectP_in (F:Fence) (n:Nat) (h8:F.fn 194) (h11:F.fn 214) (hro:F.round=none) (hn:3≤n) (g:Nat) (lb:Array Value) (hFg:F.fn g) (eg:∀args w,(callFunc g args).run Tryz.prog w=.ok (.enter g args) w)
 (S:List Pr→Prop) (N:Nat) (hN:N≤maxLen) (hNb:N*24≤140737488355328) (w:World) (hseq:SeqGives F (n-1-1) Tryz.prog g lb pv S N w) :
 CallsIn F n Tryz.prog 194 #[.func (.func g) #[] lb] w fun e w'=>∃(v:Value) (ss:List Pr),e=.returned v∧S ss∧w'.ownsRow w.heap.size 92 3 v ss.length (pvs ss)∧(v=.slice none 0 0↔ss=[])∧Below w.heap.size w w':=by
 have h1:1≤n:=by omega
 refine callsIn_of_wp Tryz.func194 rfl h8 ?_ hro
 simp only [Tryz.ntmps194,List.size_toArray,List.length_cons,List.length_nil,Nat.reduceAdd,Nat.reduceSub,Array.replicate_succ,Array.replicate_zero,List.push_toArray,List.append_toArray,List.nil_append,List.cons_append]
 gi_wp2_with (gi_at_call 214;refine (appendSeqP_in F (n-1) h11 hro oe g lb hFg eg S N hN hNb _ hseq).mono ?_;rintro e w' ⟨v,ss,rfl,hS,hrow,hnil,hb⟩)
 go_ret
 exact ⟨v,ss,rfl,hS,hrow,hnil,hb⟩
theorem values_call (mb:Option Nat) (W:World):Calls Tryz.prog 154 #[.map mb] W fun e w' =>
 e=.returned (.func (.func 196) #[] #[.pointer (some ⟨W.heap.size,0,none⟩)])∧w'=W.alloc (.cells #[.map mb] 160):=by
 go_enter Tryz.func154,Tryz.ntmps154
 go_wp2
 go_ret
 exact ⟨rfl,rfl⟩
theorem values_gives (F:Fence) (n:Nat) (h10:F.fn 196) (hro:F.round=none) (hn:1≤n) (Bm b:Nat) (m:List (Int × Pr)) (w:World) (hBm:Bm<w.heap.size)
 (hm:w.cell? ⟨Bm,0,none⟩=some (.map (some b))) (h:IMap pv w b m) (hl:m.length≤maxLen) :
 SeqGives F n Tryz.prog 196 #[.pointer (some ⟨Bm,0,none⟩)] pv (fun ss=>ss.Perm (m.map (·.2))) m.length w:=fun l J W hW hJ hY h0=>by
 obtain ⟨D,hown,hperm,hsize,_,hat⟩:=h.ownsP (P:=Tryz.prog) Tryz.underlying3 hl
 have hbl:=hown.lt
 have hown' : W.ownsMap Tryz.prog 3 peerR b m.length D:=by
  obtain ⟨es,clock,hb,Ft,hs,hD⟩:=hown
  exact ⟨es,clock,(hW.block b hbl).trans hb,Ft,hs,hD⟩
 refine (values1_in F n h10 hro hn l Bm b m.length D J (by rw [hsize];exact hY) W hJ ((hW.cell (p:=⟨Bm,0,none⟩) hBm).trans hm) hown' h0).mono ?_
 rintro e w' ⟨hv,ps,hp,hc,hJs⟩
 exact ⟨hv,_,came_perm (hp.trans hperm) hat hc,hJs⟩
theorem collect_call (b:Nat) (m:List (Int × Pr)) (w:World) (h:IMap pv w b m) (hl:m.length≤1000000) :
 Calls Tryz.prog 194 #[.func (.func 196) #[] #[.pointer (some ⟨w.heap.size,0,none⟩)]] (w.alloc (.cells #[.map (some b)] 160)) fun e w' =>
  ∃(v:Value) (ss:List Pr),e=.returned v∧ss.Perm (m.map (·.2))∧w'.ownsRow w.heap.size 92 3 v ss.length (pvs ss)∧Pure w w':=by
 have hml:m.length≤maxLen:=by unfold maxLen;omega
 have hseq:=values_gives Fence.wide 2 trivial rfl oe w.heap.size b m (w.alloc (.cells #[.map (some b)] 160)) qb qb (h.pure ((Below.refl _ w).alloc (Nat.le_refl _) _)) hml
 have cS:=collectP_in Fence.wide 4 trivial trivial rfl oe 196 #[.pointer (some ⟨w.heap.size,0,none⟩)] trivial (enters_of Tryz.func196 qk rfl) _ _ hml oe _ hseq
 refine (callsIn_wide.1 cS).mono ?_
 rintro e w' ⟨v,ss,rfl,hS,hrow,_,hb⟩
 exact ⟨v,ss,rfl,hS,own_mono hrow qb,((Below.refl _ w).alloc (Nat.le_refl _) _).trans (hb.mono qb)⟩
end
end Go.Proofs.YtdlpnhfgjficgaaGreat
