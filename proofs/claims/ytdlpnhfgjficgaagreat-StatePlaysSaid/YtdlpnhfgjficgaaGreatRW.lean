import Derived.Test.YtdlpnhfgjficgaaGreatMX34
import Derived.Shelf.Bits.Mul64
set_option maxHeartbeats 2000000
set_option maxRecDepth 8000
namespace Go.Proofs.YtdlpnhfgjficgaaGreat
open Go.RowKit Go.Maps
def RdAt (T:TypeId) (b:Nat) (s:RS) (w:World):Prop:=∃(l:List UInt8) (t:Bool),w.heap[b]?=some (.cells #[.string (bs l),.bool t] T (0,0))∧s=if t then none else some l
theorem RdAt.lt {T:TypeId} {b:Nat} {s:RS} {w:World} (h:RdAt T b s w):b<w.heap.size:=by obtain ⟨l,t,e,_⟩:=h;exact lob e
theorem RdAt.kept {S:Nat→Prop} {T:TypeId} {b:Nat} {s:RS} {w w' : World} (h:RdAt T b s w) (hk:Kept S w w') (hS:¬S b):RdAt T b s w':=by
 obtain ⟨l,t,e,hs⟩:=h
 exact ⟨l,t,(hk.block b (lob e) hS).trans e,hs⟩
theorem RdAt.pure {T:TypeId} {b:Nat} {s:RS} {w w' : World} (h:RdAt T b s w) (hp:Pure w w'):RdAt T b s w':=h.kept (S:=fun _=>False) hp.kept (fun h=>h)
theorem RdAt.set {T:TypeId} {b:Nat} {w:World} {v0 v1:Value} (e:w.heap[b]?=some (.cells #[v0,v1] T (0,0))) (l:List UInt8):(w.setCell ⟨b,0,none⟩ (.string (bs l))).heap[b]?=some (.cells #[.string (bs l),v1] T (0,0)):=by
 have:=bsc e 0 (.string (bs l));simpa using this
theorem RdAt.set1 {T:TypeId} {b:Nat} {w:World} {v0 v1:Value} (e:w.heap[b]?=some (.cells #[v0,v1] T (0,0))) (t:Bool):(w.setCell ⟨b,1,none⟩ (.bool t)).heap[b]?=some (.cells #[v0,.bool t] T (0,0)):=by
 have:=bsc e 1 (.bool t);simpa using this
def RdP (T:TypeId) (b:Nat) (v:Value) (s:RS) (w:World) (e:Ending) (w' : World):Prop:=e=.returned v∧RdAt T b s w'∧Kept (fun k=>k=b) w w'
theorem bs_drop (l:List UInt8) (k n:Nat) (hn:l.length≤n):(bs l).extract k n=bs (l.drop k):=by
 apply ByteArray.ext
 simp only [bs,ByteArray.data_extract]
 apply Array.toList_inj.1
 simp
 exact List.take_of_length_le (by rw [List.length_drop];omega)
theorem bs_take (l:List UInt8) (n:Nat):(bs l).extract 0 n=bs (l.take n):=by
 apply ByteArray.ext
 simp [bs,ByteArray.data_extract]
theorem fine_any (b:Nat) (s:RS) (w:World) (h:RdAt 117 b s w) :
 Calls Tryz.prog 100 #[.pointer (some ⟨b,0,none⟩)] w fun e w'=>e=.returned (.bool s.isSome)∧Pure w w':=by
 obtain ⟨l,t,e,rfl⟩:=h
 have c1:=cob e 1
 simp at c1
 cases t <;>
 ·go_enter Tryz.func100,Tryz.ntmps100
  go_wp2
  go_ret
  exact ⟨rfl,Below.refl _ _⟩
theorem tears_any (b:Nat) (s:RS) (w:World) (h:RdAt 117 b s w) :
 Calls Tryz.prog 137 #[.pointer (some ⟨b,0,none⟩)] w (RdP 117 b (.tuple #[]) none w):=by
 obtain ⟨l,t,e,rfl⟩:=h
 have c1:=cob e 1
 have f1:=fob e 1
 simp at c1
 have H:=hid (RdAt.set1 e true)
 clear e
 go_enter Tryz.func137,Tryz.ntmps137
 go_wp2
 go_end0
 exact ⟨rfl,⟨l,true,H.out,rfl⟩,Kept.setCell (S:=fun k=>k=b) (p:=⟨b,1,none⟩) (Kept.refl _ _) (fun _=>rfl) _⟩
theorem mread_any (l:List UInt8) (w:World) :
 Calls Tryz.prog 44 #[.string (bs l)] w fun e w'=>e=.returned (.pointer (some ⟨w.heap.size,0,none⟩))∧RdAt 117 w.heap.size (some l) w'∧Pure w w':=by
 go_enter Tryz.func44,Tryz.ntmps44
 go_wp2
 go_ret
 exact ⟨rfl,⟨l,false,ban _ _,rfl⟩,qp⟩
theorem mul64_any (x y:Nat) (hx:x<18446744073709551616) (hy:y<18446744073709551616) (w:World) :
 Calls Tryz.prog 173 #[.int .u64 x,.int .u64 y] w fun e w'=>e=.returned (.tuple #[.int .u64 ((x*y / 18446744073709551616:Nat):Int),.int .u64 ((x*y % 18446744073709551616:Nat):Int)])∧w'=w:=by
 obtain ⟨bd,bt,bw,hhi⟩:=Lib.mul64_hi x y hx hy
 have ba:=Lib.half_mul_le (a:=x / 4294967296) (b:=y / 4294967296) oe oe
 have bb:=Lib.half_mul_le (a:=x / 4294967296) (b:=y % 4294967296) oe oe
 have bc:=Lib.half_mul_le (a:=x % 4294967296) (b:=y / 4294967296) oe oe
 have ba' : x / 4294967296*(y / 4294967296)<18446744073709551616:=by omega
 have bb' : x / 4294967296*(y % 4294967296)<18446744073709551616:=by omega
 have bc' : x % 4294967296*(y / 4294967296)<18446744073709551616:=by omega
 have bh1:x / 4294967296*(y / 4294967296)+(x / 4294967296*(y % 4294967296)+x % 4294967296*(y % 4294967296) / 4294967296) / 4294967296<18446744073709551616:=by omega
 have bh:x / 4294967296*(y / 4294967296)+(x / 4294967296*(y % 4294967296)+x % 4294967296*(y % 4294967296) / 4294967296) / 4294967296+((x / 4294967296*(y % 4294967296)+x % 4294967296*(y % 4294967296) / 4294967296) % 4294967296+x % 4294967296*(y / 4294967296)) / 4294967296<18446744073709551616:=by omega
 go_enter Tryz.func173,Tryz.ntmps173
 go_wp2
 simp only [Mul64.maskN x hx,Mul64.maskN y hy,Mul64.divN,Mul64.mulN,Mul64.addN,Mul64.wrapN _ bd,Mul64.wrapN _ bb',Mul64.wrapN _ bt,Mul64.maskN _ bt,Mul64.wrapN _ bc',Mul64.wrapN _ bw,Mul64.wrapN _ ba',Mul64.wrapN _ bh1,Mul64.wrapN _ bh,Mul64.wrapM (x*y)]
 rw [hhi]
 go_ret2
 exact ⟨rfl,rfl⟩
theorem bs_get (l:List UInt8) (k:Nat) (h:k<(bs l).size):(bs l)[k]'h=l.getD k 0:=by
 have hl:k<l.length:=by rw [←bs_size];exact h
 simp only [List.getD,List.getElem?_eq_getElem hl,Option.getD_some]
 rfl
theorem rdNum_zero (s:RS) (h:(rdNum s).2=none):(rdNum s).1=0:=by
 cases s with
 | none=>rfl
 | some l =>
   unfold rdNum at h ⊢
   dsimp only at h ⊢
   cases e:rnumL l with
   | none=>rfl
   | some p=>rw [e] at h;simp at h
theorem and127_all:∀x:Fin 256,bits .and .u8 ((x.val:Nat):Int) 127=((x.val % 128:Nat):Int):=by decide +kernel
theorem and127 (c:UInt8):bits .and .u8 (c.toNat:Int) 127=((c.toNat % 128:Nat):Int):=and127_all ⟨c.toNat,c.toNat_lt⟩
theorem or_digit (n c:Nat) (hn:n*128<18446744073709551616) (hc:c<128):bits .or .u64 ((n*128:Nat):Int) ((c:Nat):Int)=((n*128+c:Nat):Int):=by
 rw [bits_or_u64_nat _ _ hn oe]
 have h:=Nat.shiftLeft_add_eq_or_of_lt (b:=c) (i:=7) oe n
 rw [Nat.shiftLeft_eq] at h
 have e:(2:Nat) ^ 7=128:=rfl
 rw [e] at h
 rw [h]
theorem mnumr_any (b:Nat) (s:RS) (w:World) (h:RdAt 117 b s w) :
 Calls Tryz.prog 136 #[.pointer (some ⟨b,0,none⟩)] w (RdP 117 b (.int .u64 ((rdNum s).1:Nat)) (rdNum s).2 w):=by
 have hf:=hid (fine_any b s w h)
 have H:=hid h
 cases s with
 | none =>
   clear h
   rw [rdNum_none]
   go_enter Tryz.func136,Tryz.ntmps136
   go_wp2_with fail
   go_step3
   go_wp2_with fail
   refine hf.out.mono ?_
   rintro e w1 ⟨rfl,hp⟩
   have Hp:=hid hp
   clear hp
   go_wp2
   go_ret
   exact ⟨rfl,H.out.pure Hp.out,Hp.out.kept⟩
 | some l =>
   have hsz:=bs_size l
   generalize hR:rdNum (some l)=R
   have HR:=hid hR
   clear h hR
   go_enter Tryz.func136,Tryz.ntmps136
   go_wp2_with fail
   go_step3
   go_wp2_with fail
   refine hf.out.mono ?_
   rintro e w1 ⟨rfl,hp⟩
   have Hp:=hid hp
   obtain ⟨l',t,e,hs⟩:=H.out.pure hp
   have ht:t=false∧l'=l:=by cases t <;> simp at hs;exact ⟨rfl,hs.symm⟩
   obtain ⟨rfl,rfl⟩:=ht
   have he:=hid e
   have c0:=cob e 0
   simp at c0
   clear hp hs e
   obtain ⟨B,hB⟩ : ∃B:Int,min (l'.length:Int) 10=B:=⟨_,rfl⟩
   have HBc:=qh (∀k:Nat,(k:Int)<B↔(k<l'.length∧k<10)) (fun k=>by omega)
   have Hfin:=qh (Pure w w1) (Hp.out)
   all_goals
    go_wp2_with fail
    go_step3
    go_wp2_with fail
    clear hB
    go_loopw [3,17] (fun n i wr=>∃(k m:Nat),i=.int .i64 k∧n=.int .u64 m∧RdI l' k m∧(0<k→l'.head?≠some 128)∧wr=w1) (fun _ i _=>10-(RowKit.intOf i).toNat)
    case atStart=>exact ⟨0,0,rfl,rfl,RdI.start _,fun h=>absurd h oe,rfl⟩
    case round =>
     obtain ⟨k,m,rfl,rfl,hI,hhd,rfl⟩:=hrel
     have Hhd:=hid hhd
     clear hhd
     have HI:=hid hI
     have h10:=hI.le10
     have hle:=hI.le
     have hmm:=hI.lt
     clear hI
     by_cases hlt:k<l'.length∧k<10
     ·have hltB:=(HBc.out k).2 hlt
      obtain ⟨hk1,hk2⟩:=hlt
      have hk1' : (k:Int)<(l'.length:Int):=by omega
      have Hk:=hid (And.intro hk1 hk2)
      obtain ⟨c,hc⟩:=qe (l'.getD k 0)
      have hidx:∀h,(bs l')[k]'h=c:=fun h=>(bs_get l' k h).trans hc.symm
      have hmul:=hid (mul64_any m 128 hmm oe)
      have hstop:=hid (fun (eR:R=(0,none)) W (hW:Pure w W)=>(tears_any b (some l') W (H.out.pure hW)).mono (R':=fun e w'=>e=.returned (.tuple #[])∧RdAt 117 b R.2 w'∧Kept (fun k=>k=b) w w') (fun e w' h=>⟨h.1,by rw [eR];exact h.2.1,hW.kept.trans h.2.2⟩))
      by_cases ho:18446744073709551616≤m*128
      ·have hRR:=HR.out.symm.trans (HI.out.over hk1 hk2 ho)
       have Hst:=hid (hstop.out hRR)
       have HR1:=qh (R.1=0) (by rw [hRR])
       have hpos:∃H:Int,0<H∧((m*128 / 18446744073709551616:Nat):Int)=H:=⟨_,by omega,rfl⟩
       obtain ⟨Hi,hHi,eHi⟩:=hpos
       rw [eHi] at hmul
       generalize ((m*128 % 18446744073709551616:Nat):Int)=Lo at *
       clear eHi ho hstop hk1 hk2 hc hRR
       go_wp2_with fail
       refine (hmul.out _).mono ?_
       rintro e w2 ⟨rfl,rfl⟩
       go_wp2_with fail
       refine (Hst.out _ Hfin.out).mono ?_
       rintro e w3 ⟨rfl,hr3,hk3⟩
       have H3:=hid hr3
       have K3:=hid hk3
       clear hr3 hk3
       go_wp2
       exact bodyPost_ret (v:=.int .u64 0) (by simp [results,Tryz.results136,go_sem]) rfl ⟨by rw [HR1.out];rfl,H3.out,K3.out⟩
      ·have hHi:((m*128 / 18446744073709551616:Nat):Int)=0:=by omega
       have hLo:((m*128 % 18446744073709551616:Nat):Int)=((m*128:Nat):Int):=by omega
       rw [hHi,hLo] at hmul
       clear hHi hLo
       have hclt:=c.toNat_lt
       by_cases hbad:k=0∧c.toNat=128
       ·obtain ⟨rfl,hb128⟩:=hbad
        have hhead:l'.head?=some 128:=by
         cases l' with
         | nil=>simp at hk1
         | cons a r =>
           have:c=a:=hc
           subst this
           exact congrArg some (UInt8.toNat_inj.1 hb128)
        have hRR:=HR.out.symm.trans (RdI.bad hhead)
        have Hst:=hid (hstop.out hRR)
        have HR1:=qh (R.1=0) (by rw [hRR])
        have hb128' : (c.toNat:Int)=128:=by omega
        generalize ((m*128:Nat):Int)=Lo at *
        clear ho hstop hk1 hk2 hc hRR hb128 hhead hclt
        go_wp2_with fail
        refine (hmul.out _).mono ?_
        rintro e w2 ⟨rfl,rfl⟩
        go_wp2_with fail
        refine (Hst.out _ Hfin.out).mono ?_
        rintro e w3 ⟨rfl,hr3,hk3⟩
        have H3:=hid hr3
        have K3:=hid hk3
        clear hr3 hk3
        go_wp2
        exact bodyPost_ret (v:=.int .u64 0) (by simp [results,Tryz.results136,go_sem]) rfl ⟨by rw [HR1.out];rfl,H3.out,K3.out⟩
       ·have hbad' : ((k:Int) == 0 && (c.toNat:Int) == 128)=false:=by
         rw [Bool.and_eq_false_iff,beq_eq_false_iff_ne,beq_eq_false_iff_ne]
         by_cases h0:k=0
         ·right;intro h;exact hbad ⟨h0,by omega⟩
         ·left;omega
        have hand:=and127 c
        obtain ⟨V,hV⟩ : ∃V:Nat,V=m*128+c.toNat % 128:=⟨_,rfl⟩
        have hor:bits .or .u64 ((m:Int)*128) ((c.toNat:Int) % 128)=(V:Int):=by rw [hV,←or_digit m (c.toNat % 128) oe oe];congr 1
        have hmod:(c.toNat:Int) % 128 % 18446744073709551616=(c.toNat:Int) % 128:=by omega
        have hwr:IntKind.u64.wrap ((c.toNat:Int) % 128)=(c.toNat:Int) % 128:=IntWalk.u64_in _ oe
        have HV:=hid hV
        clear hV
        have Hc:=hid hc
        have Ho:=hid ho
        have Hbad:=hid hbad
        have f0:=fob he.out 0
        have hadd:=qh (IntKind.i64.wrap ((k:Int)+1)=((k+1:Nat):Int)) (by rw [IntWalk.i64_in _ oe];omega)
        by_cases hlt:c.toNat<128
        ·have hlt' : (c.toNat:Int)<128:=by omega
         have hf:l'.head?≠some 128:=by
          by_cases h0:k=0
          ·subst h0
           cases l' with
           | nil=>simp at hk1
           | cons a r =>
             have:c=a:=hc
             subst this
             intro h
             have e:=congrArg UInt8.toNat (Option.some.inj h)
             have:(128:UInt8).toNat=128:=rfl
             omega
          ·exact Hhd.out oe
         have hRR:=HR.out.symm.trans (HI.out.hit hk1 hk2 ho (by rw [←hc];exact hlt) hf)
         rw [←hc] at hRR
         have HRR:=hid hRR
         have hsl:=hid (bs_drop l' (k+1))
         have Hset:=hid (fun u=>RdAt.set he.out u)
         have hx:∀L,l'.length≤L→(bs l').extract (k+1) L=bs (l'.drop (k+1)):=fun L hL=>bs_drop l' (k+1) L hL
         clear ho hbad hc hRR hf hstop hk1 hk2 hlt hsl
         generalize l'.drop (k+1)=T at *
         rcases Nat.eq_zero_or_pos k with rfl|hk0
         ·have h128:¬(c.toNat:Int)=128:=by omega
          have h128b:¬c.toNat=128:=by omega
          simp only [Nat.zero_add] at hx
          have hB0:(0:Int)<B:=by simpa using hltB
          have hl0:0<l'.length:=Hk.out.1
          have hl0' : (0:Int)<(l'.length:Int):=by omega
          have hl1:(1:Int)≤(l'.length:Int):=by omega
          clear hbad' hltB hk1' hadd
          go_wp2_with fail
          refine (hmul.out _).mono ?_
          rintro e w2 ⟨rfl,rfl⟩
          go_wp2_with fail
          exact bodyPost_ret (v:=.int .u64 V) (by simp [results,Tryz.results136,go_sem]) rfl ⟨by rw [HRR.out,HV.out,Nat.mod_eq_of_lt oe],by rw [HRR.out];exact ⟨T,false,Hset.out _,rfl⟩,Kept.setCell (S:=fun k=>k=b) (p:=⟨b,0,none⟩) Hfin.out.kept (fun _=>rfl) _⟩
         ·have hk0' : ¬k=0:=by omega
          clear hbad'
          go_wp2_with fail
          refine (hmul.out _).mono ?_
          rintro e w2 ⟨rfl,rfl⟩
          go_wp2_with fail
          exact bodyPost_ret (v:=.int .u64 V) (by simp [results,Tryz.results136,go_sem]) rfl ⟨by rw [HRR.out,HV.out,Nat.mod_eq_of_lt oe],by rw [HRR.out];exact ⟨T,false,Hset.out _,rfl⟩,Kept.setCell (S:=fun k=>k=b) (p:=⟨b,0,none⟩) Hfin.out.kept (fun _=>rfl) _⟩
        ·have hlt' : ¬(c.toNat:Int)<128:=by omega
         have Hnext:=hid (HI.out.next hk1 hk2 ho (by rw [←hc];exact hlt))
         have Hv:=qh (V= m*128+((l'.getD k 0).toNat-128)) (by rw [←hc,HV.out];omega)
         have Hhd2:=qh (l'.head?≠some 128) (by
          by_cases h0:k=0
          ·subst h0
           cases l' with
           | nil=>simp at hk1
           | cons a r =>
             have:c=a:=hc
             subst this
             intro h
             have e:=congrArg UInt8.toNat (Option.some.inj h)
             have:(128:UInt8).toNat=128:=rfl
             exact hbad ⟨rfl,by omega⟩
          ·exact Hhd.out oe)
         have hk0:k=0∨¬k=0:=by omega
         rcases hk0 with rfl|hk0
         ·have h128:¬(c.toNat:Int)=128:=by omega
          have h128b:¬c.toNat=128:=by omega
          have hB0:(0:Int)<B:=by simpa using hltB
          have hl0' : (0:Int)<(l'.length:Int):=by omega
          clear ho hbad hc hstop hk2 hlt hbad' hk1' hadd hltB
          go_wp2_with fail
          refine (hmul.out _).mono ?_
          rintro e w2 ⟨rfl,rfl⟩
          go_wp2
          go_roundw
          case rel=>exact ⟨0+1,m*128+((l'.getD 0 0).toNat-128),by go_num,by rw [←Hv.out],Hnext.out,fun _=>Hhd2.out,by simp⟩
          case measure=>simp [RowKit.intOf]
         ·clear ho hbad hc hstop hk1 hk2 hlt hbad' hadd
          go_wp2_with fail
          refine (hmul.out _).mono ?_
          rintro e w2 ⟨rfl,rfl⟩
          go_wp2
          go_roundw
          case rel=>exact ⟨k+1,m*128+((l'.getD k 0).toNat-128),by go_num,by rw [←Hv.out],Hnext.out,fun _=>Hhd2.out,by simp⟩
          case measure=>simp [RowKit.intOf];have:=Hk.out;omega
     ·have hRR:=HR.out.symm.trans (HI.out.stop hlt)
      have Hst:=hid ((fun (eR:R=(0,none)) W (hW:Pure w W)=>(tears_any b (some l') W (H.out.pure hW)).mono (R':=fun e w'=>e=.returned (.tuple #[])∧RdAt 117 b R.2 w'∧Kept (fun k=>k=b) w w') (fun e w' h=>⟨h.1,by rw [eR];exact h.2.1,hW.kept.trans h.2.2⟩)) hRR)
      have HR1:=qh (R.1=0) (by rw [hRR])
      have hltB:¬(k:Int)<B:=fun h=>hlt ((HBc.out k).1 h)
      clear hlt hRR
      go_wp2_with fail
      refine (Hst.out _ Hfin.out).mono ?_
      rintro e w3 ⟨rfl,hr3,hk3⟩
      have H3:=hid hr3
      have K3:=hid hk3
      clear hr3 hk3
      go_wp2
      exact bodyPost_ret (v:=.int .u64 0) (by simp [results,Tryz.results136,go_sem]) rfl ⟨by rw [HR1.out];rfl,H3.out,K3.out⟩
theorem mintr_any (b:Nat) (s:RS) (most:Int) (w:World) (h:RdAt 117 b s w) (hm:most<9223372036854775808) (hm0 : -9223372036854775808≤most) :
 Calls Tryz.prog 86 #[.pointer (some ⟨b,0,none⟩),.int .i64 most] w (RdP 117 b (.int .i64 (rdInt most s).1) (rdInt most s).2 w):=by
 have hn:=hid (mnumr_any b s w h)
 have hlt:=rdNum_lt s
 have hz:(rdNum s).2=none→(rdNum s).1=0:=rdNum_zero s
 have Hi:=qh (rdInt most s=match rdNum s with|(_,none)=>(0,none)|(n,some r)=>if most<0∨most<n then (0,none) else ((n:Int),some r)) (rfl)
 clear h
 generalize rdInt most s=R at *
 generalize rdNum s=N at *
 obtain ⟨n,s1⟩:=N
 unfold RdP at hn
 dsimp only at hn hlt hz
 have ht:=hid (fun W (hW:RdAt 117 b s1 W)=>tears_any b s1 W hW)
 unfold RdP at ht
 by_cases hneg:most<0∨most<n
 ·have hR:R=(0,none):=by rw [Hi.out];cases s1 <;> simp [hneg]
  have HR:=hid hR
  clear hR
  have hcase:(decide (most<0) || decide ((most % 18446744073709551616:Int)<(n:Int)))=true:=by
   rw [Bool.or_eq_true,decide_eq_true_eq,decide_eq_true_eq]
   by_cases h0:most<0
   ·exact .inl h0
   ·right;omega
  by_cases h0:most<0
  ·clear hcase
   go_enter Tryz.func86,Tryz.ntmps86
   go_wp2_with fail
   refine hn.out.mono ?_
   rintro e w1 ⟨rfl,hr1,hk1⟩
   have Ht:=hid (ht.out w1 hr1)
   have K1:=hid hk1
   clear hr1 hk1
   go_wp2_with fail
   refine Ht.out.mono ?_
   rintro e w2 ⟨rfl,hr2,hk2⟩
   have H2:=hid hr2
   have K2:=hid (K1.out.trans hk2)
   clear hr2 hk2
   go_wp2
   go_ret
   exact ⟨by rw [HR.out];rfl,by rw [HR.out];exact H2.out,K2.out⟩
  ·have hmod:most % 18446744073709551616=most:=by omega
   have hwr:IntKind.u64.wrap most=most:=IntWalk.u64_in _ oe
   have hgt:most<(n:Int):=by omega
   clear hcase
   go_enter Tryz.func86,Tryz.ntmps86
   go_wp2_with fail
   refine hn.out.mono ?_
   rintro e w1 ⟨rfl,hr1,hk1⟩
   have Ht:=hid (ht.out w1 hr1)
   have K1:=hid hk1
   clear hr1 hk1
   go_wp2_with fail
   refine Ht.out.mono ?_
   rintro e w2 ⟨rfl,hr2,hk2⟩
   have H2:=hid hr2
   have K2:=hid (K1.out.trans hk2)
   clear hr2 hk2
   go_wp2
   go_ret
   exact ⟨by rw [HR.out];rfl,by rw [HR.out];exact H2.out,K2.out⟩
 ·have h0:¬most<0:=fun h=>hneg (.inl h)
  have hgt:¬most<(n:Int):=fun h=>hneg (.inr h)
  have hR:R.2=s1∧(R.1=n):=by
   rw [Hi.out]
   cases s1 with
   | none=>exact ⟨rfl,by rw [hz rfl];rfl⟩
   | some r=>simp [hneg]
  have HR:=hid hR
  clear hR
  have hmod:most % 18446744073709551616=most:=by omega
  have hwr:IntKind.u64.wrap most=most:=IntWalk.u64_in _ oe
  have hwn:IntKind.i64.wrap (n:Int)=(n:Int):=IntWalk.i64_in _ oe
  have hn63:n<9223372036854775808:=by omega
  clear hneg hz hlt hm hm0 ht
  generalize hK:(n:Int)=K at *
  have HK:=hid hK
  clear hK
  go_enter Tryz.func86,Tryz.ntmps86
  go_wp2_with fail
  refine hn.out.mono ?_
  rintro e w1 ⟨rfl,hr1,hk1⟩
  have H1:=hid hr1
  have K1:=hid hk1
  clear hr1 hk1
  go_wp2
  go_ret
  exact ⟨by rw [HR.out.2];rfl,by rw [HR.out.1];exact H1.out,K1.out⟩
theorem mtextr_any (b:Nat) (s:RS) (most:Int) (w:World) (h:RdAt 117 b s w) (hm:most<9223372036854775808) (hm0:0≤most) :
 Calls Tryz.prog 140 #[.pointer (some ⟨b,0,none⟩),.int .i64 most] w (RdP 117 b (.string (bs (rdX most s).1)) (rdX most s).2 w):=by
 have hn:=hid (mintr_any b s most w h hm oe)
 have hbd:=rdInt_bd most s
 have Hi:=qh (rdX most s=match rdInt most s with|(_,none)=>([],none)|(n,some r)=>if r.length<n.toNat then ([],none) else (r.take n.toNat,some (r.drop n.toNat))) (rfl)
 clear h
 generalize rdX most s=R at *
 generalize rdInt most s=N at *
 obtain ⟨n,s1⟩:=N
 unfold RdP at hn
 dsimp only at hn hbd
 have ht:=hid (fun W (hW:RdAt 117 b s1 W)=>tears_any b s1 W hW)
 have hf:=hid (fun W (hW:RdAt 117 b s1 W)=>fine_any b s1 W hW)
 unfold RdP at ht
 cases s1 with
 | none =>
   have HR:=qh (R=([],none)) (Hi.out)
   go_enter Tryz.func140,Tryz.ntmps140
   go_wp2_with fail
   refine hn.out.mono ?_
   rintro e w1 ⟨rfl,hr1,hk1⟩
   have H1:=hid hr1
   have K1:=hid hk1
   clear hr1 hk1
   go_wp2_with fail
   refine (hf.out w1 H1.out).mono ?_
   rintro e w2 ⟨rfl,hp2⟩
   have H2:=hid (H1.out.pure hp2)
   have K2:=hid (K1.out.trans hp2.kept)
   clear hp2
   go_wp2_with fail
   refine (ht.out w2 H2.out).mono ?_
   rintro e w3 ⟨rfl,hr3,hk3⟩
   have H3:=hid hr3
   have K3:=hid (K2.out.trans hk3)
   clear hr3 hk3
   go_wp2
   go_ret
   exact ⟨by rw [HR.out];rfl,by rw [HR.out];exact H3.out,K3.out⟩
 | some r =>
   obtain ⟨k,rfl⟩ : ∃k:Nat,n=k:=⟨n.toNat,by omega⟩
   have Hi2:=hid Hi.out
   have hsz:=bs_size r
   dsimp only at Hi2
   rw [Int.toNat_natCast] at Hi2
   by_cases hlt:r.length<k
   ·have HR:=qh (R=([],none)) (by rw [Hi2.out,if_pos hlt])
    have hlt' : (r.length:Int)<(k:Int):=by omega
    go_enter Tryz.func140,Tryz.ntmps140
    go_wp2_with fail
    refine hn.out.mono ?_
    rintro e w1 ⟨rfl,hr1,hk1⟩
    have H1:=hid hr1
    have K1:=hid hk1
    clear hr1 hk1
    go_wp2_with fail
    refine (hf.out w1 H1.out).mono ?_
    rintro e w2 ⟨rfl,hp2⟩
    have H2:=hid (H1.out.pure hp2)
    have K2:=hid (K1.out.trans hp2.kept)
    obtain ⟨l',t,e,hs⟩:=H2.out
    have htt:t=false∧l'=r:=by cases t <;> simp at hs;exact ⟨rfl,hs.symm⟩
    obtain ⟨rfl,rfl⟩:=htt
    have c0:=cob e 0
    simp at c0
    clear hp2 hs e
    go_wp2_with fail
    refine (ht.out w2 H2.out).mono ?_
    rintro e w3 ⟨rfl,hr3,hk3⟩
    have H3:=hid hr3
    have K3:=hid (K2.out.trans hk3)
    clear hr3 hk3
    go_wp2
    go_ret
    exact ⟨by rw [HR.out];rfl,by rw [HR.out];exact H3.out,K3.out⟩
   ·have HR:=qh (R=(r.take k,some (r.drop k))) (by rw [Hi2.out,if_neg hlt])
    have hlt' : ¬(r.length:Int)<(k:Int):=by omega
    have hle' : (k:Int)≤(r.length:Int):=by omega
    have hle:k≤r.length:=by omega
    have hx:∀L,r.length≤L→(bs r).extract k L=bs (r.drop k):=fun L hL=>bs_drop r k L hL
    have hy:(bs r).extract 0 k=bs (r.take k):=bs_take r k
    generalize r.drop k=T at *
    generalize r.take k=U at *
    clear hlt
    go_enter Tryz.func140,Tryz.ntmps140
    go_wp2_with fail
    refine hn.out.mono ?_
    rintro e w1 ⟨rfl,hr1,hk1⟩
    have H1:=hid hr1
    have K1:=hid hk1
    clear hr1 hk1
    go_wp2_with fail
    refine (hf.out w1 H1.out).mono ?_
    rintro e w2 ⟨rfl,hp2⟩
    have H2:=hid (H1.out.pure hp2)
    have K2:=hid (K1.out.trans hp2.kept)
    obtain ⟨l',t,e,hs⟩:=H2.out
    have htt:t=false∧l'=r:=by cases t <;> simp at hs;exact ⟨rfl,hs.symm⟩
    obtain ⟨rfl,rfl⟩:=htt
    have c0:=cob e 0
    have f0:=fob e 0
    have Hset:=hid (fun u=>RdAt.set e u)
    simp at c0
    clear hp2 hs e
    go_wp2
    go_ret
    exact ⟨by rw [HR.out];rfl,by rw [HR.out];exact ⟨T,false,Hset.out _,rfl⟩,Kept.setCell (S:=fun k=>k=b) (p:=⟨b,0,none⟩) K2.out (fun _=>rfl) _⟩
end Go.Proofs.YtdlpnhfgjficgaaGreat
