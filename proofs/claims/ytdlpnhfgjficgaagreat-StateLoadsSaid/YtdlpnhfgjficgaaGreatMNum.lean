import Derived.Test.YtdlpnhfgjficgaaGreatMOne
import Derived.Lib.BitFns
import Derived.Lib.Builder
import Derived.Lib.AppendStr
import Derived.Lib.UnsafeStr
import Derived.Laws.Externs
import Derived.Laws.IdiomCopy
import Derived.Laws.MakeOwn
namespace Go.Proofs.YtdlpnhfgjficgaaGreat
section
open Go.RowKit Go.Maps
def nd (n:Nat):Nat:=max ((Lib.bitLen n+6) / 7) 1
def dg (n k:Nat):Nat:=128+n / 128 ^ k % 128
def hi (n:Nat):Nat→List UInt8
 | 0=>[]
 | j+1=>UInt8.ofNat (dg n (j+1))::hi n j
theorem nd_small {n:Nat} (h:n<128):nd n=1:=by
 have:=Lib.bitLen_le n 7 qd oe
 unfold nd;omega
theorem bitLen_pos {n:Nat} (h:n≠0) (h2:n<18446744073709551616):1≤Lib.bitLen n:=by
 rw [Lib.bitLen_half n h oe];omega
theorem nd_big {n:Nat} (h:¬n<128) (h2:n<18446744073709551616):nd n=nd (n / 128)+1:=by
 have e:=Lib.bitLen_shift 7 n oe oe
 have e2:(2:Nat) ^ 7=128:=rfl
 rw [e2] at e
 have:=bitLen_pos (n:=n / 128) oe oe
 unfold nd;omega
theorem dg_div (n k:Nat):dg (n / 128) k=dg n (k+1):=by
 unfold dg
 rw [Nat.div_div_eq_div_mul,Nat.pow_succ,Nat.mul_comm]
theorem hi_snoc (n:Nat):∀j,hi n (j+1)=hi (n / 128) j++[UInt8.ofNat (dg n 1)]
 | 0=>rfl
 | j+1=>by
   have ih:=hi_snoc n j
   show UInt8.ofNat (dg n (j+1+1))::hi n (j+1)=(UInt8.ofNat (dg (n / 128) (j+1))::hi (n / 128) j)++[UInt8.ofNat (dg n 1)]
   rw [ih,dg_div];rfl
theorem numAcc_hi (n:Nat) (h2:n<18446744073709551616) (acc:List UInt8):numAcc n acc=hi n (nd n-1)++acc:=by
 induction n using Nat.strongRecOn generalizing acc with
 | ind n ih =>
   by_cases h:n<128
   ·rw [numAcc_small h,nd_small h];rfl
   ·rw [numAcc_big h,ih (n / 128) oe oe,nd_big h h2]
    have e:nd (n / 128)+1-1=nd (n / 128)-1+1:=by have:1≤nd (n / 128):=Nat.le_max_right _ _;omega
    rw [e,hi_snoc,List.append_assoc]
    have e2:dg n 1=128+n / 128 % 128:=by unfold dg;simp
    rw [e2];rfl
theorem hi_len (n:Nat):∀j,(hi n j).length=j
 | 0=>rfl
 | j+1=>by simp [hi,hi_len n j]
theorem hi_get (n:Nat):∀i j,j<i→(hi n i)[j]?=some (UInt8.ofNat (dg n (i-j)))
 | 0,j,h=>by omega
 | i+1,0,_=>rfl
 | i+1,j+1,h=>by
   have:=hi_get n i j oe
   show (hi n i)[j]?=_
   rw [this,Nat.add_sub_add_right]
theorem nd_pos (n:Nat):1≤nd n:=Nat.le_max_right _ _
theorem nd_le (n:Nat) (h2:n<18446744073709551616):nd n≤10:=by
 have:=Lib.bitLen_le n 64 qd oe
 unfold nd;omega
theorem num_nd (n:Nat) (h2:n<18446744073709551616):(num n).length=nd n:=by
 have:=nd_pos n
 unfold num;rw [numAcc_hi n h2,List.length_append,hi_len];simp;omega
def ndig (n j:Nat):Nat:=if j=nd n-1 then n % 128 else dg n (nd n-1-j)
theorem num_get (n:Nat) (h2:n<18446744073709551616) (j:Nat) (hj:j<nd n):(num n)[j]?=some (UInt8.ofNat (ndig n j)):=by
 unfold num ndig
 rw [numAcc_hi n h2]
 split
 ·rename_i h
  rw [List.getElem?_append_right (by rw [hi_len];omega),hi_len,h];simp
 ·rename_i h
  rw [List.getElem?_append_left (by rw [hi_len];omega)]
  exact hi_get n _ j oe
theorem ndig_lt (n j:Nat):ndig n j<256:=by
 unfold ndig dg;split <;> omega
theorem dg_lt (n j:Nat):128≤dg n j∧dg n j<256:=by unfold dg;omega
theorem num_get' (n:Nat) (h2:n<18446744073709551616) (j:Nat) (hj:j<(num n).length):(((num n)[j]).toNat:Int)=(ndig n j:Int):=by
 have h:=num_get n h2 j (by rw [←num_nd n h2];exact hj)
 rw [List.getElem?_eq_getElem hj] at h
 have:=Option.some.inj h
 rw [this,UInt8.toNat_ofNat',Nat.mod_eq_of_lt (ndig_lt n j)]
end
section
set_option maxHeartbeats 2000000
set_option maxRecDepth 100000
open Go.RowKit Go.Maps
theorem sizeBuilder:(Tryz.prog.info? 146).map (·.size)=some 2:=by kernel_rfl
theorem liesBuilder:liesAt Tryz.prog Tryz.prog.depth 146 (2 / Tryz.prog.cellsOf 146) 0 146 1=true:=by kernel_rfl
structure Bd (b:Nat) (v:Value) (l:List UInt8) (w:World):Prop where
 blk:∃p,(p=.pointer none∨p=.pointer (some ⟨b,0,none⟩))∧w.heap[b]?=some (.cells #[p,v] 146 (0,0))
 row:w.ownsRow (b+1) 5 1 v l.length (Lib.byteCells l)
theorem Bd.pure {b:Nat} {v:Value} {l:List UInt8} {w w' : World} (h:Bd b v l w) (hp:Pure w w'):Bd b v l w':=by
 obtain ⟨⟨p,hpp,hb⟩,hr⟩:=h
 exact ⟨⟨p,hpp,(hp.block _ (lob hb)).trans hb⟩,own_pure hr hp⟩
theorem Bd.lt {b:Nat} {v:Value} {l:List UInt8} {w:World} (h:Bd b v l w):b<w.heap.size:=by
 obtain ⟨⟨p,hpp,hb⟩,hr⟩:=h
 exact lob hb
theorem Bd.fresh (w:World):Bd w.heap.size (.slice none 0 0) [] (w.alloc (.cells #[.pointer none,.slice none 0 0] 146)) :=
 ⟨⟨_,.inl rfl,ban _ _⟩,World.ownsRow_nil _ _ _ _⟩
theorem Bd.is {b:Nat} {v:Value} {l:List UInt8} {w:World} (h:Bd b v l w):Lib.IsBuilder 146 5 b b (Lib.byteCells l) w:=by
 obtain ⟨⟨p,hpp,hb⟩,hr⟩:=h
 have hl:=Lib.byteCells_length l
 have hA:Lib.BuilderAt 146 5 b b p (Lib.byteCells l) w:=⟨Nat.le_refl _,v,hb,by rw [hl];exact own_mono hr (Nat.le_succ _),own_ne hr (Nat.lt_succ_self _)⟩
 rcases hpp with rfl|rfl
 ·exact .inl hA
 ·exact .inr hA
theorem bcheck_any (b:Nat) (v:Value) (l:List UInt8) (w:World) (h:Bd b v l w) :
 Calls Tryz.prog 169 #[.pointer (some ⟨b,0,none⟩)] w fun e w'=>e=.returned (.tuple #[])∧w'.heap[b]?=some (.cells #[.pointer (some ⟨b,0,none⟩),v] 146 (0,0))∧w'.ownsRow (b+1) 5 1 v l.length (Lib.byteCells l)∧Kept (fun k=>k=b) w w':=by
 obtain ⟨⟨p,hpp,hb⟩,hr⟩:=h
 obtain ⟨j,hj,hjs⟩:=Option.map_eq_some_iff.1 sizeBuilder
 have h0:w.cell? ⟨b,0,none⟩=some p:=cob hb 0
 have hfz:w.frozen? ⟨b,0,none⟩=false:=fob hb 0
 have hsh:w.shape? b=some (146,2):=by simp [World.shape?,hb]
 rcases hpp with rfl|rfl
 ·have hfin:Hid ((w.setCell ⟨b,0,none⟩ (.pointer (some ⟨b,0,none⟩))).heap[b]?=some (.cells #[.pointer (some ⟨b,0,none⟩),v] 146 (0,0))∧(w.setCell ⟨b,0,none⟩ (.pointer (some ⟨b,0,none⟩))).ownsRow (b+1) 5 1 v l.length (Lib.byteCells l)∧Kept (fun k=>k=b) w (w.setCell ⟨b,0,none⟩ (.pointer (some ⟨b,0,none⟩)))) :=
   ⟨by have:=bsc hb 0 (.pointer (some ⟨b,0,none⟩));simpa using this,own_setCell hr ⟨b,0,none⟩ (Nat.lt_succ_self _) _,Kept.setCell (S:=fun k=>k=b) (Kept.refl _ w) (p:=⟨b,0,none⟩) (fun _=>rfl) _⟩
  clear hb hr
  go_enter Tryz.func169,Tryz.ntmps169
  go_wp2
  rw [Lib.run_to_unsafe w ⟨b,0,none⟩ Tryz.underlying144 Tryz.underlying199 hj (by rw [hjs];decide) hsh (Nat.zero_lt_succ 1)]
  simp only [Result.andThen]
  rw [Oper.upon_value]
  go_wp2
  rw [run_callFunc_extern Tryz.func201 qk qk qk (e:=Extern.AbiNoEscape.same) qk]
  rw [Lib.run_noEscape]
  simp only [Result.andThen]
  rw [Oper.upon_value]
  go_wp2
  rw [Lib.run_from_unsafe w ⟨b,0,none⟩ Tryz.underlying199 Tryz.underlying144 hj hsh liesBuilder]
  simp only [Result.andThen]
  rw [Oper.upon_value]
  go_wp2
  go_end0
  exact ⟨rfl,hfin.out⟩
 ·have hfin:=hid (And.intro hb (And.intro hr (Kept.refl (fun k=>k=b) w)))
  clear hb hr
  go_enter Tryz.func169,Tryz.ntmps169
  go_wp2
  rw [Lib.run_neq_ptr_same w _ Tryz.underlying144 hj]
  go_wp2
  go_end0
  exact ⟨rfl,hfin.out⟩
theorem infoByte:(Tryz.prog.info? 5).map (fun i=>(i.zero,i.size,i.bytes))=some (some (.int .u8 0),1,1):=by kernel_rfl
theorem bwrite_any (b:Nat) (v:Value) (l s:List UInt8) (w:World) (h:Bd b v l w) (hl:l.length+s.length≤1000000000) :
 Calls Tryz.prog 125 #[.pointer (some ⟨b,0,none⟩),.string (bs s)] w fun e w'=>e=.returned (.tuple #[.int .i64 s.length,.nilIface])∧∃v',Bd b v' (l++s) w'∧Kept (fun k=>k=b∨v.ownBlock=some k) w w':=by
 have hc:=hid (bcheck_any b v l w h)
 obtain ⟨i0,hi,hz0,hz1,hz2⟩:=ipt infoByte
 have hsz:=bs_size s
 have hlt:=h.lt
 have hstr:Lib.strCells (bs s)=Lib.byteCells s:=rfl
 have Hstr:=hid hstr
 have Hsz:=hid hsz
 have hlong:(bs s).size≤1000000000:=by omega
 clear hstr hsz h
 go_enter Tryz.func125,Tryz.ntmps125
 go_wp2_with fail
 refine hc.out.mono ?_
 rintro e w1 ⟨rfl,hb1,hr1,hk1⟩
 have c0:w1.cell? ⟨b,0,none⟩=some (.pointer (some ⟨b,0,none⟩)):=cob hb1 0
 have c1:w1.cell? ⟨b,1,none⟩=some v:=cob hb1 1
 have hltb:b<w1.heap.size:=lob hb1
 have Hb1:=hid hb1
 have Hr1:=hid hr1
 have Hk1:=hid hk1
 obtain ⟨av,cv,rfl⟩:=osd hr1
 clear hb1 hr1 hk1
 go_wp2_with (at_builtin;refine Lib.wpList_append_own_string _ rfl _ _ 88 9 rfl (b+1) 5 i0 Tryz.underlying88 Tryz.underlying9 hi hz0 hz1 hz2 _ _ _ rfl Hr1.out (bs s) rfl ?c3 ?c4 ?c5 ?_)
 case c3=>unfold maxLen;omega
 case c4=>omega
 case c5=>omega
 intro v' w2 hown' hgrow _
 have hb2:w2.heap[b]?=some (.cells #[.pointer (some ⟨b,0,none⟩),.slice av l.length cv] 146 (0,0)) :=
  (hgrow.block b hltb (fun e=>own_ne Hr1.out (Nat.lt_succ_self _) e.symm)).trans Hb1.out
 have d0:w2.cell? ⟨b,0,none⟩=some (.pointer (some ⟨b,0,none⟩)):=cob hb2 0
 have d1:w2.cell? ⟨b,1,none⟩=some (.slice av l.length cv):=cob hb2 1
 have f1:w2.frozen? ⟨b,1,none⟩=false:=fob hb2 1
 obtain ⟨p',k',rfl⟩:=osd hown'
 have hown2:w2.ownsRow (b+1) 5 1 (.slice p' (l.length+(bs s).size) k') (l++s).length (Lib.byteCells (l++s)):=by
  rw [Hstr.out,←Lib.byteCells_append] at hown'
  have e:l.length+(bs s).size=(l++s).length:=by rw [Hsz.out,List.length_append]
  rw [e] at hown' ⊢
  exact hown'
 have hk:Kept (fun k=>k=b∨(Value.slice av l.length cv).ownBlock=some k) w w2:=(Hk1.out.mono (fun k _ e=>Or.inl e)).grown hgrow (fun k hk _=>.inr hk)
 have hfin:=qh (Bd b (.slice p' (l.length+(bs s).size) k') (l++s) (w2.setCell ⟨b,1,none⟩ (.slice p' (l.length+(bs s).size) k'))∧Kept (fun k=>k=b∨(Value.slice av l.length cv).ownBlock=some k) w (w2.setCell ⟨b,1,none⟩ (.slice p' (l.length+(bs s).size) k'))) (
  ⟨⟨⟨_,.inr rfl,by have:=bsc hb2 1 (.slice p' (l.length+(bs s).size) k');simpa using this⟩,own_setCell hown2 ⟨b,1,none⟩ (Nat.lt_succ_self _) _⟩,Kept.setCell (S:=fun k=>k=b∨(Value.slice av l.length cv).ownBlock=some k) hk (p:=⟨b,1,none⟩) (fun _=>.inl rfl) _⟩)
 clear hb2 hown' hown2 hk hgrow
 go_wp2
 go_ret2
 exact ⟨by rw [Hsz.out];rfl,_,hfin.out⟩
end
section
set_option maxHeartbeats 2000000
set_option maxRecDepth 8000
open Go.RowKit Go.Maps
theorem or_and_all:∀x:Fin 256,bits .or .u8 (bits .and .u8 ((x.val:Nat):Int) 127) 128=((128+x.val % 128:Nat):Int):=by decide +kernel
theorem andnot_all:∀x:Fin 256,bits .andNot .u8 ((x.val:Nat):Int) 128=((x.val % 128:Nat):Int):=by decide +kernel
theorem dg_bits (n k:Nat):bits .or .u8 (bits .and .u8 ((n:Int) / 2 ^ (7*k) % 256) 127) 128=(dg n k:Int):=by
 have e:(n:Int) / 2 ^ (7*k) % 256=((n / 128 ^ k % 256:Nat):Int):=by
  have:(128:Nat) ^ k=2 ^ (7*k):=by rw [Nat.pow_mul]
  rw [this];simp
 have h:=or_and_all ⟨n / 128 ^ k % 256,Nat.mod_lt _ qd⟩
 rw [e]
 refine h.trans ?_
 unfold dg
 have:n / 128 ^ k % 256 % 128=n / 128 ^ k % 128:=by omega
 show ((128+n / 128 ^ k % 256 % 128:Nat):Int)=_
 rw [this]
theorem dg0_bits (n:Nat):bits .andNot .u8 (dg n 0:Int) 128=((n % 128:Nat):Int):=by
 have hd:=dg_lt n 0
 have h:=andnot_all ⟨dg n 0,hd.2⟩
 refine h.trans ?_
 show ((dg n 0 % 128:Nat):Int)=_
 unfold dg
 simp
theorem num_set (n M:Nat) (h2:n<18446744073709551616) (hM:nd n=M) (cs:Array Value) (hs:cs.size=M) (hv:∀j,j<M→cs[j]?=some (.int .u8 (dg n (M-1-j):Int))) :
 ∀j (hj:j<(num n).length),(cs.setIfInBounds (M-1) (.int .u8 ((n % 128:Nat):Int)))[j]?=some (.int .u8 (((num n)[j]).toNat:Int)):=by
 intro j hj
 have hp:=nd_pos n
 rw [num_get' n h2 j hj]
 rw [num_nd n h2,hM] at hj
 unfold ndig
 rw [hM]
 by_cases h:j=M-1
 ·subst h
  rw [if_pos rfl,Array.getElem?_setIfInBounds_self_of_lt oe]
 ·rw [if_neg h,Array.getElem?_setIfInBounds_ne oe,hv j hj]
theorem mnum_any (n:Nat) (w:World) (hn:n<18446744073709551616) :
 Calls Tryz.prog 123 #[.int .u64 n] w fun e w'=>e=.returned (.string (bs (num n)))∧Pure w w':=by
 have hlen:=hid ((Tryz.bits_Len64 (n:Int) w oe oe).mono (R':=fun e w'=>e=.returned (.int .i64 (Lib.bitLen n))∧w=w') (fun e w' h=>⟨by rw [h.1,Int.toNat_natCast],h.2.symm⟩))
 have hM:max (((Lib.bitLen n:Int)+7-1) / 7) 1=(nd n:Int):=by
  unfold nd
  have:=Lib.bitLen_le n 64 qd oe
  omega
 have hML:=nd_le n hn
 have hMp:=nd_pos n
 have hb:=Lib.bitLen_le n 64 qd oe
 obtain ⟨i0,hi,hz0,hz1,hz2⟩:=ipt infoByte
 have hmk:∀W,(Instr.makeSlice 88 (.int .i64 (nd n:Int)) (.int .i64 (nd n:Int))).run Tryz.prog W=.ok (.slice (some ⟨W.heap.size,0,none⟩) (nd n) (nd n)) (W.alloc (.cells (madeCells (Value.int .u8 0).cells (nd n)) 5)):=fun W=>by
  have h:=run_make (P:=Tryz.prog) W 88 5 i0 _ Tryz.underlying88 hi hz0 .i64 .i64 (nd n:Int) (nd n:Int) oe (Int.le_refl _) (by rw [hz2];omega) oe
  rw [h,hz1];simp
 have hZ:(madeCells (Value.int .u8 0).cells (nd n)).size=nd n:=size_madeCells _ _
 have hset:=hid (num_set n (nd n) hn rfl)
 have hbits:=dg_bits n
 have hbits0:=hid (dg0_bits n)
 have hnl:=hid (num_nd n hn)
 have Hn:=hid hn
 clear hn hi hz0 hz1 hz2
 generalize madeCells (Value.int .u8 0).cells (nd n)=Z at *
 generalize Lib.bitLen n=L at *
 generalize hMe:nd n=M at *
 have HMe:=hid hMe
 have hZs:=hid hZ
 clear hMe hZ
 go_enter Tryz.func123,Tryz.ntmps123
 go_wp2_with (go_at_call 168;refine hlen.out.mono ?_;rintro e w' ⟨rfl,rfl⟩)
 clear hmk hM
 go_loopw [5,16] (fun _ i wr=>∃k:Nat,k≤M∧i=.int .i64 k∧(∃cs,wr.heap[w.heap.size]?=some (.cells cs 5 (0,0))∧cs.size=M∧∀j,M-k≤j→j<M→cs[j]?=some (.int .u8 (dg n (M-1-j):Int)))∧Pure w wr) (fun _ i _=>M-(RowKit.intOf i).toNat)
 case atStart=>exact ⟨0,Nat.zero_le _,rfl,⟨Z,ban _ _,hZs.out,fun j h1 h2=>by omega⟩,qp⟩
 case round =>
  obtain ⟨k,hk,rfl,⟨cs,hcs,hsz,hval⟩,hp⟩:=hrel
  by_cases hlt:k<M
  ·have hlt' : (k:Int)<(M:Int):=by omega
   obtain ⟨v0,hv0⟩ : ∃v0,cs[M-1-k]?=some v0:=⟨cs[M-1-k]'oe,Array.getElem?_eq_getElem oe⟩
   have c0:wr.cell? ⟨w.heap.size,M-1-k,none⟩=some v0:=(cob hcs (M-1-k)).trans hv0
   have f0:wr.frozen? ⟨w.heap.size,M-1-k,none⟩=false:=fob hcs (M-1-k)
   have Hcs:=hid hcs
   have Hv:=hid hval
   have Hp:=hid hp
   have h1:(0:Int)≤(M:Int)-1-(k:Int):=by omega
   have h2:(M:Int)-1-(k:Int)<(M:Int):=by omega
   clear hcs hval hp hv0
   go_wp2
   have hfin:=qh (∃cs',(wr.setCell ⟨w.heap.size,M-1-k,none⟩ (.int .u8 (dg n k:Int))).heap[w.heap.size]?=some (.cells cs' 5 (0,0))∧cs'.size=M∧∀j,M-(k+1)≤j→j<M→cs'[j]?=some (.int .u8 (dg n (M-1-j):Int))) (by
    refine ⟨_,bsc Hcs.out _ _,by simpa using hsz,fun j h3 h4=>?_⟩
    by_cases he:j=M-1-k
    ·subst he
     rw [Array.getElem?_setIfInBounds_self_of_lt oe,show M-1-(M-1-k)=k by omega]
    ·rw [Array.getElem?_setIfInBounds_ne oe]
     exact Hv.out j oe h4)
   have hbk:=hid (hbits k)
   clear hbits hsz
   go_wp2
   go_roundw
   case rel=>exact ⟨k+1,by omega,by go_num,hfin.out,Hp.out.setCell (Nat.le_refl _) _⟩
   case measure=>simp [RowKit.intOf];omega
  ·have hlt' : ¬(k:Int)<(M:Int):=by omega
   have hv:∀j,j<M→cs[j]?=some (.int .u8 (dg n (M-1-j):Int)):=fun j hj=>hval j oe hj
   have hgd:=hset.out cs hsz hv
   have c0:wr.cell? ⟨w.heap.size,M-1,none⟩=some (.int .u8 (dg n 0:Int)):=(cob hcs (M-1)).trans (by rw [hv (M-1) oe,Nat.sub_self])
   have f0:wr.frozen? ⟨w.heap.size,M-1,none⟩=false:=fob hcs (M-1)
   have h1:(0:Int)≤(M:Int)-1:=by omega
   have h2:(M:Int)-1<(M:Int):=by omega
   have hb0:=hbits0.out
   have hc1:((n % 128:Nat):Int)=(n:Int) % 128:=by omega
   rw [hc1] at hb0 hgd
   have hblk:=hid (bsc hcs (M-1) (.int .u8 ((n:Int) % 128)))
   have Hgd:=hid hgd
   have Hp:=qh (Pure w (wr.setCell ⟨w.heap.size,M-1,none⟩ (.int .u8 ((n:Int) % 128)))) (hp.setCell (Nat.le_refl _) _)
   have hcv:(convert 88 9 (.slice (some ⟨w.heap.size,0,none⟩) M M)).run Tryz.prog (wr.setCell ⟨w.heap.size,M-1,none⟩ (.int .u8 ((n:Int) % 128)))=.ok (.string (bs (num n))) (wr.setCell ⟨w.heap.size,M-1,none⟩ (.int .u8 ((n:Int) % 128))):=by
    have h:=run_convert_bytes_back (P:=Tryz.prog) (wr.setCell ⟨w.heap.size,M-1,none⟩ (.int .u8 ((n:Int) % 128))) 88 9 5 ⟨w.heap.size,0,none⟩ M (num n) Tryz.underlying88 Tryz.underlying5 Tryz.underlying9 (fun j hj=>by
     rw [Addr.add_lit,Nat.zero_add,cob hblk.out];exact Hgd.out j hj)
    rw [hnl.out] at h
    exact h
   clear hgd hv hcs hval hp hbits hsz hc1
   generalize hR:bs (num n)=R at hcv
   have HR:=hid hR
   clear hR
   go_wp2
   go_ret
   exact ⟨by rw [HR.out];rfl,Hp.out⟩
theorem mint_any (n:Int) (w:World) (h0:0≤n) (hn:n<9223372036854775808) :
 Calls Tryz.prog 60 #[.int .i64 n] w fun e w'=>e=.returned (.string (bs (num n.toNat)))∧Pure w w':=by
 obtain ⟨k,rfl⟩ : ∃k:Nat,n=(k:Int):=⟨n.toNat,by omega⟩
 have hm:=hid (mnum_any k w oe)
 have hmod:(k:Int) % 18446744073709551616=(k:Int):=by omega
 have hmax:max (k:Int) 0=(k:Int):=by omega
 clear h0 hn
 go_enter Tryz.func60,Tryz.ntmps60
 go_wp2_with (go_at_call 123;refine hm.out.mono ?_;rintro e w' ⟨rfl,hp⟩;have Hp:=hid hp;clear hp)
 go_ret
 exact ⟨by simp,Hp.out⟩
theorem mtext_any (s:List UInt8) (w:World) (hn:s.length≤1000000) :
 Calls Tryz.prog 128 #[.string (bs s)] w fun e w'=>e=.returned (.string (bs (num s.length++s)))∧Pure w w':=by
 have hm:=hid (mnum_any s.length w oe)
 have hsz:=bs_size s
 have hmod:(s.length:Int) % 18446744073709551616=(s.length:Int):=by omega
 have hbig:=num_len s.length oe
 have hns:¬9223372036854775807<(bs (num s.length)).size+(bs s).size:=by rw [bs_size,bs_size];omega
 have happ:=hid (bs_append (num s.length) s)
 clear hn
 generalize bs (num s.length)=N at *
 generalize bs s=S at *
 go_enter Tryz.func128,Tryz.ntmps128
 go_wp2_with (go_at_call 123;refine hm.out.mono ?_;rintro e w' ⟨rfl,hp⟩;have Hp:=hid hp;clear hp)
 go_ret
 exact ⟨congrArg (fun x=>Ending.returned (.string x)) happ.out,Hp.out⟩
end
section
set_option maxHeartbeats 2000000
set_option maxRecDepth 8000
open Go.RowKit Go.Maps
theorem mdbytes_any (d:Dot) (w:World) (h:Small d) :
 Calls Tryz.prog 127 #[dv d] w fun r w'=>r=.returned (.string (bs (dotB d)))∧Pure w w':=by
 obtain ⟨x,y⟩:=d
 obtain ⟨h1,h2,h3,h4⟩:=h
 dsimp only at h1 h2 h3 h4
 have hc:∀W:World,Pure w W→W.cell? ⟨w.heap.size,0,none⟩=some (.int .i64 x)∧W.cell? ⟨w.heap.size,1,none⟩=some (.int .i64 y)→(W.cell? ⟨w.heap.size,0,none⟩=some (.int .i64 x)∧W.cell? ⟨w.heap.size,1,none⟩=some (.int .i64 y)∧Pure w W):=fun W a b=>⟨b.1,b.2,a⟩
 have hx:=hid (fun W=>mint_any x W h1 h2)
 have hy:=hid (fun W=>mint_any y W h3 h4)
 have l1:=num_len x.toNat oe
 have l2:=num_len y.toNat oe
 have hns:¬9223372036854775807<(bs (num x.toNat)).size+(bs (num y.toNat)).size:=by rw [bs_size,bs_size];omega
 have happ:=hid (bs_append (num x.toNat) (num y.toNat))
 unfold dotB dv
 dsimp only
 clear h1 h2 h3 h4 l1 l2 hc
 generalize bs (num x.toNat)=X at *
 generalize bs (num y.toNat)=Y at *
 have hst:=qh ((w.alloc (.cells #[.int .i64 x,.int .i64 y] 28)).drew.cell? ⟨w.heap.size,0,none⟩=some (.int .i64 x)∧(w.alloc (.cells #[.int .i64 x,.int .i64 y] 28)).drew.cell? ⟨w.heap.size,1,none⟩=some (.int .i64 y)∧Pure w (w.alloc (.cells #[.int .i64 x,.int .i64 y] 28)).drew) (⟨by simp,by simp,qp.drew⟩)
 have hkeep:Hid (∀W W' : World,Pure W W'→(W.cell? ⟨w.heap.size,0,none⟩=some (.int .i64 x)∧W.cell? ⟨w.heap.size,1,none⟩=some (.int .i64 y)∧Pure w W)→(W'.cell? ⟨w.heap.size,0,none⟩=some (.int .i64 x)∧W'.cell? ⟨w.heap.size,1,none⟩=some (.int .i64 y)∧Pure w W')):=fun W W' hp ⟨a,b,c⟩ =>
  ⟨(hp.cell (World.block_lt_of_cell? W _ a)).trans a,(hp.cell (World.block_lt_of_cell? W _ b)).trans b,c.then_ hp⟩
 go_enter Tryz.func127,Tryz.ntmps127
 go_wp2_with fail
 go_region_held3 (fun W=>W.cell? ⟨w.heap.size,0,none⟩=some (.int .i64 x)∧W.cell? ⟨w.heap.size,1,none⟩=some (.int .i64 y)∧Pure w W)
  (first|exact hst.out|exact hkeep.out _ _ qa qa)
  (first
    | (go_at_call 60;refine (hx.out _).mono ?_;rintro e w1 ⟨rfl,hp1⟩)
    | (go_at_call 60;refine (hy.out _).mono ?_;rintro e w1 ⟨rfl,hp1⟩))
 have hx':=qh (w1.cell? ⟨w.heap.size,0,none⟩=some (.int .i64 x)∧w1.cell? ⟨w.heap.size,1,none⟩=some (.int .i64 y)∧Pure w w1) (by assumption)
 go_wp2
 go_ret
 exact ⟨congrArg (fun z=>Ending.returned (.string z)) happ.out,hx'.out.2.2⟩
theorem mrow_any (v:Value) (l:List Dot) (w:World) (hr:Dots w v l) (hs:∀d ∈ l,Small d) (hl:l.length≤1000000) :
 Calls Tryz.prog 170 #[v] w fun r w'=>r=.returned (.string (bs (rowB l)))∧Pure w w':=by
 obtain ⟨a,cap,rfl⟩:=hr.shape
 have Hr:=hid hr
 have Hs:=hid hs
 have hi:=hid (mint_any l.length w oe oe)
 unfold rowB
 clear hr hs
 go_enter Tryz.func170,Tryz.ntmps170
 go_wp2_with (go_at_call 60;refine hi.out.mono ?_;rintro e w1 ⟨rfl,hp1⟩;have Hp1:=hid hp1;clear hp1)
 go_loopw [3,5,11] (fun s _ i wr=>∃k:Nat,k≤l.length∧i=.int .i64 k∧s=.string (bs (num l.length++(l.take k).flatMap dotB))∧Pure w wr) (fun _ _ i _=>l.length-(RowKit.intOf i).toNat)
 case atStart=>exact ⟨0,Nat.zero_le _,rfl,by simp,Hp1.out⟩
 case round =>
  obtain ⟨k,hk,rfl,rfl,hp⟩:=hrel
  by_cases hlt:k<l.length
  ·obtain ⟨b,off,rfl,hb,c0,c1⟩:=Dots.get (show Dots wr (.slice a l.length cap) l from Row.pure Hr.out hp) hlt
   have hlt' : (k:Int)<(l.length:Int):=by omega
   have Hstep:=hid (rowB_take l k hlt)
   have hsm:=Hs.out _ (mem_get_d hlt)
   have hb1:=dotB_len _ hsm
   have hb2:((l.take k).flatMap dotB).length≤20000000:=Nat.le_trans (flatB_len (l.take k) (fun d hd=>Hs.out d (List.mem_of_mem_take hd))) (by rw [List.length_take];omega)
   have hb3:=num_len l.length oe
   have hcall:=hid (fun W=>mdbytes_any (l.getD k (0,0)) W hsm)
   have Hp:=hid hp
   clear hp hsm
   generalize hze:l.getD k (0,0)=z at *
   obtain ⟨z1,z2⟩:=z
   dsimp only at c0 c1
   have hns:¬9223372036854775807<(bs (num l.length++(l.take k).flatMap dotB)).size+(bs (dotB (z1,z2))).size:=by rw [bs_size,bs_size,List.length_append];omega
   have happ:=hid (bs_append (num l.length++(l.take k).flatMap dotB) (dotB (z1,z2)))
   clear hb1 hb2 hb3 hze
   unfold dv at hcall
   generalize bs (dotB (z1,z2))=Z at *
   generalize hS:bs (num l.length++(l.take k).flatMap dotB)=S at *
   clear hS
   go_wp2_with (go_at_call 127;refine (hcall.out _).mono ?_;rintro e w2 ⟨rfl,hp2⟩;have Hp2:=hid hp2;clear hp2)
   go_roundw
   case rel=>exact ⟨k+1,by omega,by go_num,by rw [Hstep.out,←happ.out],(Hp.out.alloc Hp.out.size _).trans (Hp2.out.mono (by have:=Hp.out.size;simp;omega))⟩
   case measure=>simp [RowKit.intOf];omega
  ·have hlt' : ¬(k:Int)<(l.length:Int):=by omega
   have e:l.take k=l:=List.take_of_length_le oe
   rw [e]
   have Hp:=hid hp
   clear hp e
   go_wp2
   go_ret
   exact ⟨rfl,Hp.out⟩
theorem mcbytes_any (vb vc:Value) (B C:List Dot) (w:World) (hB:Dots w vb B) (hC:Dots w vc C) (sB:∀d ∈ B,Small d) (sC:∀d ∈ C,Small d) (lB:B.length≤100000) (lC:C.length≤100000) :
 Calls Tryz.prog 126 #[.agg #[vb,vc]] w fun r w'=>r=.returned (.string (bs (ctxB B C)))∧Pure w w':=by
 obtain ⟨a,cap,rfl⟩:=hB.shape
 obtain ⟨a',cap',rfl⟩:=hC.shape
 have hx:=hid (fun W (hW:Pure w W)=>mrow_any _ B W (show Dots W (.slice a B.length cap) B from Row.pure hB hW) sB oe)
 have hy:=hid (fun W (hW:Pure w W)=>mrow_any _ C W (show Dots W (.slice a' C.length cap') C from Row.pure hC hW) sC oe)
 have l1:=rowB_len B sB lB
 have l2:=rowB_len C sC lC
 have hns:¬9223372036854775807<(bs (rowB B)).size+(bs (rowB C)).size:=by rw [bs_size,bs_size];omega
 have happ:=hid (bs_append (rowB B) (rowB C))
 unfold ctxB
 clear hB hC l1 l2 sB sC lB lC
 generalize bs (rowB B)=X at *
 generalize bs (rowB C)=Y at *
 have hst:=qh ((w.alloc (.cells #[.slice a B.length cap,.slice a' C.length cap'] 32)).drew.cell? ⟨w.heap.size,0,none⟩=some (.slice a B.length cap)∧(w.alloc (.cells #[.slice a B.length cap,.slice a' C.length cap'] 32)).drew.cell? ⟨w.heap.size,1,none⟩=some (.slice a' C.length cap')∧Pure w (w.alloc (.cells #[.slice a B.length cap,.slice a' C.length cap'] 32)).drew) (⟨by simp,by simp,qp.drew⟩)
 have hkeep:Hid (∀W W' : World,Pure W W'→(W.cell? ⟨w.heap.size,0,none⟩=some (.slice a B.length cap)∧W.cell? ⟨w.heap.size,1,none⟩=some (.slice a' C.length cap')∧Pure w W)→(W'.cell? ⟨w.heap.size,0,none⟩=some (.slice a B.length cap)∧W'.cell? ⟨w.heap.size,1,none⟩=some (.slice a' C.length cap')∧Pure w W')):=fun W W' hp ⟨a,b,c⟩ =>
  ⟨(hp.cell (World.block_lt_of_cell? W _ a)).trans a,(hp.cell (World.block_lt_of_cell? W _ b)).trans b,c.then_ hp⟩
 have hS:Hid (∀W:World,(W.cell? ⟨w.heap.size,0,none⟩=some (.slice a B.length cap)∧W.cell? ⟨w.heap.size,1,none⟩=some (.slice a' C.length cap')∧Pure w W)→Pure w W):=fun W h=>h.2.2
 go_enter Tryz.func126,Tryz.ntmps126
 go_wp2_with fail
 go_region_held3 (fun W=>W.cell? ⟨w.heap.size,0,none⟩=some (.slice a B.length cap)∧W.cell? ⟨w.heap.size,1,none⟩=some (.slice a' C.length cap')∧Pure w W)
  (first|with_reducible exact hst.out|with_reducible exact hkeep.out _ _ qa qa)
  (first
    | (go_at_call 170;with_reducible refine (hx.out _ (hS.out _ qa)).mono ?_;rintro e w1 ⟨rfl,hp1⟩)
    | (go_at_call 170;with_reducible refine (hy.out _ (hS.out _ qa)).mono ?_;rintro e w1 ⟨rfl,hp1⟩))
 have hx':=qh (w1.cell? ⟨w.heap.size,0,none⟩=some (.slice a B.length cap)∧w1.cell? ⟨w.heap.size,1,none⟩=some (.slice a' C.length cap')∧Pure w w1) (by assumption)
 go_wp2
 go_ret
 exact ⟨congrArg (fun z=>Ending.returned (.string z)) happ.out,hx'.out.2.2⟩
end
section
set_option maxHeartbeats 4000000
set_option maxRecDepth 8000
open Go.RowKit Go.Maps
theorem msgflat_take (p:List UInt8) (l:List Msg) (k:Nat) (h:k<l.length):p++(l.take (k+1)).flatMap msgB=(p++(l.take k).flatMap msgB)++msgB (l.getD k m0):=by
 rw [take_succ_m l k h];simp [List.append_assoc]
theorem mbbytes_any (v:Value) (g:Bag) (w:World) (hat:BagAt w v g) (hsm:SmallG g) :
 Calls Tryz.prog 62 #[v] w fun e w'=>e=.returned (.string (bs (bagB g)))∧Pure w w':=by
 obtain ⟨v0,v1,v2,rfl,h0,h1,h2⟩:=hat
 obtain ⟨L,B,C⟩:=g
 obtain ⟨sM,sB,sC,lM,lB,lC⟩:=hsm
 dsimp only at h0 h1 h2 sM sB sC lM lB lC
 obtain ⟨a0,c0,rfl⟩:=h0.shape
 obtain ⟨a1,c1,rfl⟩:=h1.shape
 obtain ⟨a2,c2,rfl⟩:=h2.shape
 have SM:=hid sM
 obtain ⟨wz,hwz⟩:=qe ((w.alloc (.cells #[.slice a0 L.length c0,.slice a1 B.length c1,.slice a2 C.length c2] 34)).alloc (.cells #[.pointer none,.slice none 0 0] 146))
 have Hwz:=qh (Pure w wz) (by rw [hwz];exact qp.alloc qb _)
 have b0:wz.heap[w.heap.size]?=some (.cells #[.slice a0 L.length c0,.slice a1 B.length c1,.slice a2 C.length c2] 34 (0,0)):=by rw [hwz];exact bao (ban _ _) _
 have hBd:Bd (w.heap.size+1) (.slice none 0 0) [] wz:=by
  have:=Bd.fresh (w.alloc (.cells #[.slice a0 L.length c0,.slice a1 B.length c1,.slice a2 C.length c2] 34))
  rw [World.size_alloc] at this
  rw [hwz];exact this
 have hS:Hid (∀W,Kept (fun k=>w.heap.size+1≤k) wz W→(W.cell? ⟨w.heap.size,0,none⟩=some (.slice a0 L.length c0)∧W.cell? ⟨w.heap.size,1,none⟩=some (.slice a1 B.length c1)∧W.cell? ⟨w.heap.size,2,none⟩=some (.slice a2 C.length c2)∧Kept (fun k=>w.heap.size+1≤k) wz W)):=fun W hW=>by
  have e0:=(hW.block _ (lob b0) oe).trans b0
  exact ⟨cob e0 0,cob e0 1,cob e0 2,hW⟩
 have hS2:Hid (∀W:World,(W.cell? ⟨w.heap.size,0,none⟩=some (.slice a0 L.length c0)∧W.cell? ⟨w.heap.size,1,none⟩=some (.slice a1 B.length c1)∧W.cell? ⟨w.heap.size,2,none⟩=some (.slice a2 C.length c2)∧Kept (fun k=>w.heap.size+1≤k) wz W)→Kept (fun k=>w.heap.size+1≤k) wz W):=fun W h=>h.2.2.2
 have hst:=hid (hS.out wz.drew (Kept.refl _ _).drew)
 have lt0:=hid (Row.lt h0)
 have lt1:=Row.lt h1
 have lt2:=Row.lt h2
 have HL:=qh (Msgs wz (.slice a0 L.length c0) L) (Row.pure h0 Hwz.out)
 have hctx:=hid (fun W (hW:Kept (fun k=>w.heap.size+1≤k) wz W)=>mcbytes_any _ _ B C W (show Dots W (.slice a1 B.length c1) B from Row.kept (Row.pure h1 Hwz.out) hW (fun k hk e=>by have:=lt1 k hk;omega)) (show Dots W (.slice a2 C.length c2) C from Row.kept (Row.pure h2 Hwz.out) hW (fun k hk e=>by have:=lt2 k hk;omega)) sB sC lB lC)
 have hint:=hid (fun W=>mint_any (L.length:Int) W oe oe)
 have n1:¬9223372036854775807<(bs (ctxB B C)).size+(bs (num L.length)).size:=by
  have:=rowB_len B sB lB
  have:=rowB_len C sC lC
  have:=num_len L.length oe
  rw [bs_size,bs_size];unfold ctxB;rw [List.length_append];omega
 have hlp:(ctxB B C++num L.length).length≤5000000:=by
  have:=rowB_len B sB lB
  have:=rowB_len C sC lC
  have:=num_len L.length oe
  unfold ctxB;rw [List.length_append,List.length_append];omega
 have hgB:=qh (bagB (L,B,C)=(ctxB B C++num L.length)++L.flatMap msgB) (rfl)
 have hwr:=hid (fun W (h:Bd (w.heap.size+1) (.slice none 0 0) [] W)=>(show Calls Tryz.prog 125 #[.pointer (some ⟨w.heap.size+1,0,none⟩),.string (bs (ctxB B C)++bs (num L.length))] W (fun e w'=>e=.returned (.tuple #[.int .i64 ((ctxB B C++num L.length).length:Int),.nilIface])∧∃v',Bd (w.heap.size+1) v' ([]++(ctxB B C++num L.length)) w'∧Kept (fun k=>k=w.heap.size+1∨(Value.slice none 0 0).ownBlock=some k) W w') from by rw [bs_append];exact bwrite_any _ _ [] _ W h (by simp only [List.length_nil];omega)))
 rw [Int.toNat_natCast] at hint
 generalize hP:ctxB B C++num L.length=P at *
 generalize bs (ctxB B C)=X at *
 generalize bs (num L.length)=Y at *
 clear hP b0 h0 h1 h2 sM sB sC lt1 lt2
 go_enter Tryz.func62,Tryz.ntmps62
 go_wp2_with fail
 rw [←hwz]
 clear hwz
 have hB1:Bd (w.heap.size+1) (.slice none 0 0) [] wz.drew:=hBd.pure qv
 go_region_held3 (fun W=>W.cell? ⟨w.heap.size,0,none⟩=some (.slice a0 L.length c0)∧W.cell? ⟨w.heap.size,1,none⟩=some (.slice a1 B.length c1)∧W.cell? ⟨w.heap.size,2,none⟩=some (.slice a2 C.length c2)∧Kept (fun k=>w.heap.size+1≤k) wz W)
  (first|with_reducible exact hst.out|with_reducible exact hS.out _ (Kept.trans (hS2.out _ qa) (Pure.kept qa))|with_reducible exact hS.out _ (Kept.trans (hS2.out _ qa) qa))
  (first
    | (go_at_call 126;with_reducible refine (hctx.out _ (hS2.out _ qa)).mono ?_;rintro e w1 ⟨rfl,hp1⟩;have hB2:Bd (w.heap.size+1) (.slice none 0 0) [] w1:=Bd.pure qa hp1)
    | (go_at_call 60;with_reducible refine (hint.out _).mono ?_;rintro e w1 ⟨rfl,hp1⟩;have hB2:Bd (w.heap.size+1) (.slice none 0 0) [] w1:=Bd.pure qa hp1)
    | (go_at_call 125;with_reducible refine (hwr.out _ qa).mono ?_;rintro e w1 ⟨rfl,v1,hB3,hk1⟩;have hk2:Kept (fun k=>w.heap.size+1≤k) _ w1:=hk1.mono (fun k _ e=>by simp [Value.ownBlock] at e;omega)))
 have Hk:=hid (hS2.out w1 qa)
 have HB:=hid (show Bd (w.heap.size+1) v1 P w1 by simpa using hB3)
 clear hk1 hk2 hst n1 hB1 hB3 hBd
 obtain ⟨f0,-,-,-⟩:=hS.out w1 Hk.out
 go_wp2
 clear f0
 go_loopw [5,18] (fun _ i wr=>∃(k:Nat) (v:Value),k≤L.length∧i=.int .i64 k∧Bd (w.heap.size+1) v (P++(L.take k).flatMap msgB) wr∧Kept (fun k=>w.heap.size+1≤k) wz wr) (fun _ i _=>L.length-(RowKit.intOf i).toNat)
 case atStart=>exact ⟨0,v1,Nat.zero_le _,rfl,by simpa using HB.out,Hk.out⟩
 case round =>
  obtain ⟨k,v,hk,rfl,hbd,hp⟩:=hrel
  by_cases hlt:k<L.length
  ·obtain ⟨b,off,rfl,hb,d0,d1,d2,d3,d4⟩:=Msgs.get (show Msgs wr (.slice a0 L.length c0) L from Row.kept HL.out hp (fun k hk e=>by have:=lt0.out k hk;omega)) hlt
   have hlt' : (k:Int)<(L.length:Int):=by omega
   have Hstep:=hid (msgflat_take P L k hlt)
   have hsmz:=SM.out _ (mem_get_m hlt)
   have hfl:=flatM_len (L.take k) (fun d hd=>SM.out d (List.mem_of_mem_take hd))
   rw [List.length_take] at hfl
   have hpl:(P++(L.take k).flatMap msgB).length≤300000000:=by rw [List.length_append];omega
   have hml:=msgB_len _ hsmz
   generalize P++(L.take k).flatMap msgB=A at *
   generalize L.getD k m0=z at *
   obtain ⟨⟨z1,z2⟩,q,bo,c⟩:=z
   obtain ⟨s1,s2,s3,s4,s5⟩:=hsmz
   dsimp only at d0 d1 d2 d3 d4 s1 s2 s3 s4 s5 Hstep
   have k1:=dotB_len _ s1
   have k2:=textB_len q s4
   have k3:=textB_len bo s5
   have k4:=num_len c.toNat oe
   have cD:=hid (fun W=>mdbytes_any (z1,z2) W s1)
   have cQ:=hid (fun W=>mtext_any q W oe)
   have cB:=hid (fun W=>mtext_any bo W oe)
   have cC:=hid (fun W=>mint_any c W s2 s3)
   have hap:(((bs (dotB (z1,z2)))++bs (textB q))++bs (textB bo))++bs (num c.toNat)=bs (msgB ((z1,z2),q,bo,c)):=by
    rw [bs_append,bs_append,bs_append];rfl
   have hwr:=hid (fun W (h:Bd (w.heap.size+1) v A W)=>(show Calls Tryz.prog 125 #[.pointer (some ⟨w.heap.size+1,0,none⟩),.string ((((bs (dotB (z1,z2)))++bs (textB q))++bs (textB bo))++bs (num c.toNat))] W (fun e w'=>e=.returned (.tuple #[.int .i64 ((msgB ((z1,z2),q,bo,c)).length:Int),.nilIface])∧∃v',Bd (w.heap.size+1) v' (A++msgB ((z1,z2),q,bo,c)) w'∧Kept (fun k=>k=w.heap.size+1∨v.ownBlock=some k) W w') from by rw [hap];exact bwrite_any _ _ A _ W h oe))
   have m2:¬9223372036854775807<(bs (dotB (z1,z2))).size+(bs (textB q)).size:=by rw [bs_size,bs_size];omega
   have m3:¬9223372036854775807<(bs (dotB (z1,z2))).size+(bs (textB q)).size+(bs (textB bo)).size:=by rw [bs_size,bs_size,bs_size];omega
   have m4:¬9223372036854775807<(bs (dotB (z1,z2))).size+(bs (textB q)).size+(bs (textB bo)).size+(bs (num c.toNat)).size:=by rw [bs_size,bs_size,bs_size,bs_size];omega
   have Hp:=hid hp
   have Hbd:=hid hbd
   have hltb:=hbd.lt
   have hnv:∀g,v.ownBlock=some g→w.heap.size+1<g∧g<wr.heap.size:=fun g hg=>hbd.row.lt g hg
   obtain ⟨wo,rfl⟩ : ∃wo:World,wo=wr:=⟨_,rfl⟩
   clear hp hpl hfl k1 k2 k3 k4 s1 s2 s3 s4 s5 hap hml hbd
   unfold dv at cD
   dsimp only at cD
   have eq1:num q.length++q=textB q:=rfl
   have eq2:num bo.length++bo=textB bo:=rfl
   rw [eq1] at cQ
   rw [eq2] at cB
   clear eq1 eq2
   generalize bs (dotB (z1,z2))=SD at *
   generalize bs (textB q)=SQ at *
   generalize bs (textB bo)=SB at *
   generalize bs (num c.toNat)=SC at *
   generalize bs q=Q at *
   generalize bs bo=BO at *
   obtain ⟨wb,hwb⟩:=qe (wo.alloc (.cells #[.int .i64 z1,.int .i64 z2,.string Q,.string BO,.int .i64 c] 43))
   have Hwb:=qh (Pure wo wb) (by rw [hwb];exact qp)
   have bb:wb.heap[wo.heap.size]?=some (.cells #[.int .i64 z1,.int .i64 z2,.string Q,.string BO,.int .i64 c] 43 (0,0)):=by rw [hwb];exact ban _ _
   have hT:Hid (∀W,Kept (fun k=>k=w.heap.size+1∨v.ownBlock=some k) wb W→(W.cell? ⟨wo.heap.size,0,none⟩=some (.int .i64 z1)∧W.cell? ⟨wo.heap.size,1,none⟩=some (.int .i64 z2)∧W.cell? ⟨wo.heap.size,2,none⟩=some (.string Q)∧W.cell? ⟨wo.heap.size,3,none⟩=some (.string BO)∧W.cell? ⟨wo.heap.size,4,none⟩=some (.int .i64 c)∧Kept (fun k=>k=w.heap.size+1∨v.ownBlock=some k) wb W)):=fun W hW=>by
    have e0:=(hW.block _ (lob bb) (fun e=>by rcases e with e|e;·omega
                                             ·have:=hnv _ e;omega)).trans bb
    exact ⟨cob e0 0,cob e0 1,cob e0 2,cob e0 3,cob e0 4,hW⟩
   have hT2:Hid (∀W:World,(W.cell? ⟨wo.heap.size,0,none⟩=some (.int .i64 z1)∧W.cell? ⟨wo.heap.size,1,none⟩=some (.int .i64 z2)∧W.cell? ⟨wo.heap.size,2,none⟩=some (.string Q)∧W.cell? ⟨wo.heap.size,3,none⟩=some (.string BO)∧W.cell? ⟨wo.heap.size,4,none⟩=some (.int .i64 c)∧Kept (fun k=>k=w.heap.size+1∨v.ownBlock=some k) wb W)→Kept (fun k=>k=w.heap.size+1∨v.ownBlock=some k) wb W):=fun W h=>h.2.2.2.2.2
   have htt:=hid (hT.out wb.drew (Kept.refl _ _).drew)
   have hB0:Bd (w.heap.size+1) v A wb.drew:=(Hbd.out.pure Hwb.out).pure qv
   have hnv':=hid hnv
   clear bb hnv
   go_wp2_with fail
   rw [←hwb]
   clear hwb d0 d1 d2 d3 d4
   go_region_held3 (fun W=>W.cell? ⟨wo.heap.size,0,none⟩=some (.int .i64 z1)∧W.cell? ⟨wo.heap.size,1,none⟩=some (.int .i64 z2)∧W.cell? ⟨wo.heap.size,2,none⟩=some (.string Q)∧W.cell? ⟨wo.heap.size,3,none⟩=some (.string BO)∧W.cell? ⟨wo.heap.size,4,none⟩=some (.int .i64 c)∧Kept (fun k=>k=w.heap.size+1∨v.ownBlock=some k) wb W)
    (first|with_reducible exact htt.out|with_reducible exact hT.out _ (Kept.trans (hT2.out _ qa) (Pure.kept qa))|with_reducible exact hT.out _ (Kept.trans (hT2.out _ qa) qa))
    (first
      | (go_at_call 127;with_reducible refine (cD.out _).mono ?_;rintro e w2 ⟨rfl,hp2⟩;have hB2:Bd (w.heap.size+1) v A w2:=Bd.pure qa hp2)
      | (go_at_call 128;with_reducible refine (cQ.out _).mono ?_;rintro e w2 ⟨rfl,hp2⟩;have hB2:Bd (w.heap.size+1) v A w2:=Bd.pure qa hp2)
      | (go_at_call 128;with_reducible refine (cB.out _).mono ?_;rintro e w2 ⟨rfl,hp2⟩;have hB2:Bd (w.heap.size+1) v A w2:=Bd.pure qa hp2)
      | (go_at_call 60;with_reducible refine (cC.out _).mono ?_;rintro e w2 ⟨rfl,hp2⟩;have hB2:Bd (w.heap.size+1) v A w2:=Bd.pure qa hp2)
      | (go_at_call 125;with_reducible refine (hwr.out _ qa).mono ?_;rintro e w2 ⟨rfl,v2,hB3,hk1⟩))
   have HB3:=hid hB3
   have Hkk:=hid (hT2.out w2 qa)
   have Hk2:=qh (Kept (fun k=>w.heap.size+1≤k) wz w2) ((Hp.out.trans Hwb.out.kept).trans (Hkk.out.mono (fun k _ e=>by
    rcases e with e|e
    ·omega
    ·have:=hnv'.out _ e;omega)))
   clear htt m2 m3 m4 hB0 hB3 hk1
   go_wp2
   go_roundw
   case rel=>exact ⟨k+1,v2,by omega,by go_num,by rw [Hstep.out];exact HB3.out,Hk2.out⟩
   case measure=>simp [RowKit.intOf];omega
  ·have hlt' : ¬(k:Int)<(L.length:Int):=by omega
   have e:L.take k=L:=List.take_of_length_le oe
   rw [e,←hgB.out] at hbd
   have hstr:=hid (Tryz.Builder_String_any (w.heap.size+1) (w.heap.size+1) (bagB (L,B,C)) wr hbd.is (Nat.le_of_lt hbd.lt))
   have Hp:=hid hp
   clear hp e hbd
   go_wp2_with fail
   refine hstr.out.mono ?_
   rintro e w2 ⟨rfl,hp2⟩
   have Hp2:=hid hp2
   clear hp2
   go_wp2
   go_ret
   exact ⟨rfl,Below.trans Hwz.out (((Hp.out.mono (fun k _ e=>(show w.heap.size≤k by omega))).below Hwz.out.size (fun k hk e=>by omega)).trans (Hp2.out.mono oe))⟩
end
end Go.Proofs.YtdlpnhfgjficgaaGreat
