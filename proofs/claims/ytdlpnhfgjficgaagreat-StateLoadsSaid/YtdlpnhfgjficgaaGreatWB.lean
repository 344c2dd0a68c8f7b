import Derived.Test.YtdlpnhfgjficgaaGreatMX21
set_option maxHeartbeats 4000000
set_option maxRecDepth 8000
namespace Go.Proofs.YtdlpnhfgjficgaaGreat
open Go.RowKit Go.Maps Go.Shelf
theorem and_le (n:Int) (k:Nat) (hk:k<1000000):0≤bits .and .i64 n k∧bits .and .i64 n k≤k:=by
 show 0≤IntKind.i64.wrap ((BitVec.ofInt 64 n &&& BitVec.ofInt 64 k).toNat:Int)∧IntKind.i64.wrap ((BitVec.ofInt 64 n &&& BitVec.ofInt 64 k).toNat:Int)≤k
 have hx:(BitVec.ofInt 64 n &&& BitVec.ofInt 64 k).toNat≤k:=by
  rw [BitVec.toNat_and]
  refine Nat.le_trans Nat.and_le_right ?_
  rw [BitVec.toNat_ofInt];omega
 rw [IntWalk.i64_in _ oe]
 omega
theorem andK (n k:Int) (hk:0≤k∧k<1000000):0≤bits .and .i64 n k∧bits .and .i64 n k≤k:=by
 obtain ⟨j,rfl⟩ : ∃j:Nat,k=(j:Int):=⟨k.toNat,by omega⟩
 exact and_le n j oe
structure Rc where
 k:Int
 n:Int
 p:Int
 raw:List UInt8
def rcV (x:Rc):Value:=.agg #[.int .i64 x.k,.int .i64 x.n,.int .i64 x.p,.string (bs x.raw)]
def K7 (x:Rc):Int:=bits .and .i64 x.k 7
def rpart (x:Rc):Nat:=(bits .and .i64 x.p 15).toNat
def rdot (x:Rc):Dot:=(1+bits .and .i64 x.n 3,1+bits .and .i64 (x.n / 4) 7)
def rmsg (x:Rc):Msg:=(rdot x,[113],[],bits .and .i64 (x.n / 32) 3)
def rtag (x:Rc):Tag:=([UInt8.ofNat (97+(bits .and .i64 x.n 3).toNat)],1+bits .and .i64 (x.n / 4) 7)
def rpr (x:Rc):Pr:=⟨1+bits .and .i64 x.n 3,bits .and .i64 (x.n / 4) 3,bits .and .i64 (x.n / 16) 1⟩
def rhold (x:Rc):Hold:=(rdot x,1+bits .and .i64 (x.n / 32) 3,1+bits .and .i64 (x.n / 128) 31)
def rbag (x:Rc):Bag:=if K7 x=2 then bput nb (rmsg x) else bremove nb (rdot x)
def rtext (x:Rc):List UInt8 :=
 if K7 x=0 then 73::num (bits .and .i64 x.n 3).toNat
 else if K7 x=1 then 82::num (max 0 x.n).toNat
 else if K7 x=2∨K7 x=3 then 66::(num (rpart x)++bagB (rbag x))
 else if K7 x=4 then 78::tagsB [rtag x]
 else if K7 x=5 then 86::viewB [rpr x]
 else if K7 x=6 then 72::holdsB [rhold x]
 else x.raw.take 60
theorem rdot_chk (x:Rc):dchk (rdot x)=true:=by
 have h1:=andK (x.n) 3 qd
 have h2:=andK (x.n / 4) 7 qd
 rw [dchk_iff];unfold dok rdot;dsimp only;omega
theorem rmsg_may (x:Rc):mmay (rmsg x)=true:=by
 have h:=andK (x.n / 32) 3 qd
 have hc:=rdot_chk x
 unfold mmay rmsg
 dsimp only
 rw [hc]
 simp only [List.length_cons,List.length_nil,Bool.true_and,Bool.and_eq_true,decide_eq_true_eq]
 omega
theorem rtag_ok (x:Rc):TV [rtag x]:=by
 have h:=andK (x.n / 4) 7 qd
 refine ⟨by simp,List.pairwise_singleton _ _,fun t ht=>?_⟩
 simp at ht;subst ht
 unfold tmay rtag
 simp only [List.length_cons,List.length_nil,Bool.and_eq_true,decide_eq_true_eq]
 omega
theorem rpr_ok (x:Rc):VV [rpr x]:=by
 have h1:=andK (x.n) 3 qd
 have h2:=andK (x.n / 4) 3 qd
 have h3:=andK (x.n / 16) 1 qd
 refine ⟨by simp,List.pairwise_singleton _ _,fun t ht=>?_⟩
 simp at ht;subst ht
 unfold pmay rpr
 simp only [Bool.and_eq_true,decide_eq_true_eq]
 omega
theorem rhold_ok (x:Rc):HV [rhold x]:=by
 have h1:=andK (x.n / 32) 3 qd
 have h2:=andK (x.n / 128) 31 qd
 refine ⟨by simp,List.pairwise_singleton _ _,fun t ht=>?_⟩
 simp at ht;subst ht
 have hc:=rdot_chk x
 unfold hmay rhold
 dsimp only
 rw [hc]
 simp only [Bool.true_and,Bool.and_eq_true,decide_eq_true_eq]
 omega
theorem chas_nil (d:Dot) (hd:dok d):chas [] [] d=false:=by
 cases h:chas [] [] d with
 | false=>rfl
 | true =>
   obtain ⟨_,h1|h1⟩:=chas_iff.1 h
   ·have h0:cbase [] d.1=0:=rfl
    unfold dok at hd
    rw [h0] at h1;omega
   ·simp at h1
theorem rbag_ok (x:Rc):BN 2 (rbag x):=by
 have hd:=dchk_iff.1 (rdot_chk x)
 have hc:∀d:Dot,(cjoin [] [] [] (dsort ([d].filter dchk))).1.length+(cjoin [] [] [] (dsort ([d].filter dchk))).2.length≤2:=fun d=>by
  have h1:=cjoin_len COk.nil.wk (CWk.cloud (adds_ok [d]))
  have h2:(dsort ([d].filter dchk)).length≤1:=Nat.le_trans (dsort_len _) (List.length_filter_le _ _)
  simp only [List.length_nil] at h1
  omega
 unfold rbag
 split
 ·have hv:BV (bput nb (rmsg x)):=BV.nil.put (rmsg_may x) (chas_nil _ hd)
  refine ⟨hv,?_,hc _⟩
  have:=nodup_sub_len (rise_nodup hv.r.rise) (k:=[(rmsg x).1]) (fun d hd=>by
   obtain ⟨m,hm,rfl⟩:=List.mem_map.1 hd
   have hm' : m ∈ msort (nb.1++[rmsg x]):=hm
   rw [msort_mem] at hm'
   simp [nb] at hm'
   rw [hm'];simp)
  simp at this
  omega
 ·refine ⟨BV.nil.remove hd,?_,hc _⟩
  rw [show (bremove nb (rdot x)).1=[] from rfl]
  decide
theorem byte_conv (W:World) (c:Nat) (hc:c<256):(convert 88 9 (.slice (some ⟨W.heap.size,0,none⟩) 1 1)).run Tryz.prog (W.alloc (.cells #[.int .u8 c] 5))=.ok (.string (bs [UInt8.ofNat c])) (W.alloc (.cells #[.int .u8 c] 5)) :=
 run_convert_bytes_back (P:=Tryz.prog) (W.alloc (.cells #[.int .u8 c] 5)) 88 9 5 ⟨W.heap.size,0,none⟩ 1 [UInt8.ofNat c] Tryz.underlying88 Tryz.underlying5 Tryz.underlying9 (fun j hj=>by
  have hj' : j=0:=by simpa using hj
  subst hj'
  rw [Addr.add_lit,Nat.zero_add,cob (ban _ _)]
  simp
  omega)
theorem rput_nb (x:Rc) (W:World):Calls Tryz.prog 47 #[.agg #[.slice none 0 0,.slice none 0 0,.slice none 0 0],mv (rmsg x)] W (BagT W (bput nb (rmsg x)) 0):=by
 refine (rput_ok (.slice none 0 0) (.slice none 0 0) (.slice none 0 0) [] [] [] (rmsg x) W (Row.nil _ _) (Row.nil _ _) (Row.nil _ _) (rmsg_may x) (chas_nil _ (dchk_iff.1 (rdot_chk x))) qd qd qb).mono ?_
 rintro e w' ⟨v,rfl,⟨v0,v1,v2,rfl,h0,h1,h2⟩,hp,hf⟩
 exact ⟨v0,v1,v2,rfl,⟨h0,h1,h2⟩,hp,hf v0 v1 v2 rfl⟩
def TxP (x:Rc) (w:World) (e:Ending) (w' : World):Prop:=e=.returned (.string (bs (rtext x)))∧Pure w w'
theorem tx0 (x:Rc) (w:World) (hK:K7 x=0) :
 Calls Tryz.prog 15 #[rcV x] w (TxP x w):=by
 have ht:rtext x=73::num (bits .and .i64 x.n 3).toNat:=by unfold rtext;simp only [hK];simp
 unfold TxP
 rw [ht]
 have hb:=andK x.n 3 qd
 have hc:=hid (fun W=>rborn_any (bits .and .i64 x.n 3) W hb.1 oe)
 obtain ⟨k,n,p,raw⟩:=x
 unfold K7 at hK
 unfold rcV
 dsimp only at *
 have hp1:∀a b,Pure w ((w.alloc a).alloc b):=fun a b=>((Below.refl _ _).alloc (Nat.le_refl _) a).alloc qb b
 have HP:=hid hp1
 clear hp1 ht hb
 go_enter Tryz.func15,Tryz.ntmps15
 go_wp2_with fail
 refine (hc.out _).mono ?_
 rintro e w1 ⟨rfl,hp⟩
 have Hp:=hid hp
 clear hp
 go_wp2
 go_ret
 exact ⟨rfl,(HP.out _ _).then_ Hp.out⟩
theorem tx1 (x:Rc) (w:World) (hK:K7 x=1) (hn:x.n<9223372036854775808) :
 Calls Tryz.prog 15 #[rcV x] w (TxP x w):=by
 have ht:rtext x=82::num (max 0 x.n).toNat:=by unfold rtext;simp only [hK];simp
 unfold TxP
 rw [ht]
 by_cases hneg:x.n<0
 ·have hc:=hid (fun W=>(show Calls Tryz.prog 22 #[.int .i64 0] W fun e w'=>e=.returned (.string (bs (82::num (max 0 x.n).toNat)))∧Pure W w' from by
   have:=rreserve_any 0 W qd qd
   rw [show max 0 x.n=0 by omega];exact this))
  obtain ⟨k,n,p,raw⟩:=x
  unfold K7 at hK
  unfold rcV
  dsimp only at *
  have hp1:∀a b,Pure w ((w.alloc a).alloc b):=fun a b=>((Below.refl _ _).alloc (Nat.le_refl _) a).alloc qb b
  have HP:=hid hp1
  clear hp1 ht
  go_enter Tryz.func15,Tryz.ntmps15
  go_wp2_with fail
  refine (hc.out _).mono ?_
  rintro e w1 ⟨rfl,hp⟩
  have Hp:=hid hp
  clear hp
  go_wp2
  go_ret
  exact ⟨rfl,(HP.out _ _).then_ Hp.out⟩
 ·have hc:=hid (fun W=>(show Calls Tryz.prog 22 #[.int .i64 x.n] W fun e w'=>e=.returned (.string (bs (82::num (max 0 x.n).toNat)))∧Pure W w' from by
   have:=rreserve_any x.n W oe hn
   rw [show max 0 x.n=x.n by omega];exact this))
  obtain ⟨k,n,p,raw⟩:=x
  unfold K7 at hK
  unfold rcV
  dsimp only at *
  have hp1:∀a b,Pure w ((w.alloc a).alloc b):=fun a b=>((Below.refl _ _).alloc (Nat.le_refl _) a).alloc qb b
  have HP:=hid hp1
  clear hp1 ht
  go_enter Tryz.func15,Tryz.ntmps15
  go_wp2_with fail
  refine (hc.out _).mono ?_
  rintro e w1 ⟨rfl,hp⟩
  have Hp:=hid hp
  clear hp
  go_wp2
  go_ret
  exact ⟨rfl,(HP.out _ _).then_ Hp.out⟩
theorem tx2 (x:Rc) (w:World) (hK:K7 x=2) :
 Calls Tryz.prog 15 #[rcV x] w (TxP x w):=by
 have ht:rtext x=66::(num (rpart x)++bagB (rbag x)):=by unfold rtext;simp only [hK];simp
 unfold TxP
 rw [ht]
 have hbn:=hid (rbag_ok x)
 have hpp:=andK x.p 15 qd
 have h1:=andK x.n 3 qd
 have h2:=andK (x.n / 4) 7 qd
 have h3:=andK (x.n / 32) 3 qd
 have hpt:bits .and .i64 x.p 15=((rpart x:Nat):Int):=by unfold rpart;omega
 have hrp:rpart x<1000000:=by omega
 have hj:=hid (fun v0 v1 v2 W (hr:BR3 v0 v1 v2 (rbag x) W)=>rjoined_any (rpart x) v0 v1 v2 (rbag x) 2 W hr hbn.out qd hrp)
 have hg:=qh (rbag x=bput nb (rmsg x)) (by unfold rbag;rw [if_pos hK])
 have hw1:wrap64 (1+bits .and .i64 x.n 3)=1+bits .and .i64 x.n 3:=by unfold wrap64;omega
 have hw2:wrap64 (1+bits .and .i64 (x.n / 4) 7)=1+bits .and .i64 (x.n / 4) 7:=by unfold wrap64;omega
 have hput:=hid (fun W=>rput_nb x W)
 have hmv:mv (rmsg x)=.agg #[.int .i64 (1+bits .and .i64 x.n 3),.int .i64 (1+bits .and .i64 (x.n / 4) 7),.string ⟨#[113]⟩,.string ⟨#[]⟩,.int .i64 (bits .and .i64 (x.n / 32) 3)]:=rfl
 rw [hmv] at hput
 unfold BagT at hput
 rw [hg.out] at hj ht ⊢
 clear hbn
 generalize hGe:bput nb (rmsg x)=G at *
 clear hGe hg hmv
 generalize rpart x=PT at *
 obtain ⟨k,n,p,raw⟩:=x
 unfold K7 at hK
 unfold rcV
 dsimp only at *
 obtain ⟨wz,hwz⟩:=qe ((w.alloc (.cells #[.int .i64 k,.int .i64 n,.int .i64 p,.string (bs raw)] 39)).alloc (.cells #[.int .i64 (1+bits .and .i64 n 3),.int .i64 (1+bits .and .i64 (n / 4) 7)] 28))
 have Hpz:=qh (Pure w wz) (by rw [hwz];exact qp.alloc qb _)
 have hbz:=qh (wz.heap[w.heap.size]?=some (.cells #[.int .i64 k,.int .i64 n,.int .i64 p,.string (bs raw)] 39 (0,0))) (by rw [hwz];exact bao (ban _ _) _)
 clear ht hpp h1 h2 h3
 go_enter Tryz.func15,Tryz.ntmps15
 go_wp2_with fail
 rw [←hwz]
 clear hwz
 refine (hput.out _).mono ?_
 rintro e w1 ⟨v0,v1,v2,rfl,⟨hm0,hm1,hm2⟩,hp,-⟩
 obtain ⟨a0,c0,rfl⟩:=Row.shape hm0
 obtain ⟨a1,c1,rfl⟩:=Row.shape hm1
 obtain ⟨a2,c2,rfl⟩:=Row.shape hm2
 have hpa:∀o,Pure wz (w1.alloc o):=fun o=>Pure.then_ hp ((Below.refl _ _).alloc (Nat.le_refl _) o)
 have hcp:(w1.alloc (.cells #[.slice a0 G.1.length c0,.slice a1 G.2.1.length c1,.slice a2 G.2.2.length c2] 34)).cell? ⟨w.heap.size,2,none⟩=some (.int .i64 p):=cob (((hpa _).block _ (lob hbz.out)).trans hbz.out) 2
 have Hb:=qh (BR3 (.slice a0 G.1.length c0) (.slice a1 G.2.1.length c1) (.slice a2 G.2.2.length c2) G (w1.alloc (.cells #[.slice a0 G.1.length c0,.slice a1 G.2.1.length c1,.slice a2 G.2.2.length c2] 34))) (BR3.pure ⟨hm0,hm1,hm2⟩ qp)
 have Hpa:=hid (fun o=>Hpz.out.then_ (hpa o))
 clear hput hm0 hm1 hm2 hp hpa
 go_wp2_with fail
 refine (hj.out _ _ _ _ Hb.out).mono ?_
 rintro e w2 ⟨rfl,hp2⟩
 have Hp2:=hid hp2
 clear hp2
 go_wp2
 go_ret
 exact ⟨rfl,(Hpa.out _).then_ Hp2.out⟩
theorem tx3 (x:Rc) (w:World) (hK:K7 x=3) :
 Calls Tryz.prog 15 #[rcV x] w (TxP x w):=by
 have ht:rtext x=66::(num (rpart x)++bagB (rbag x)):=by unfold rtext;simp only [hK];simp
 unfold TxP
 rw [ht]
 have hbn:=hid (rbag_ok x)
 have hpp:=andK x.p 15 qd
 have h1:=andK x.n 3 qd
 have h2:=andK (x.n / 4) 7 qd
 have h3:=andK (x.n / 32) 3 qd
 have hpt:bits .and .i64 x.p 15=((rpart x:Nat):Int):=by unfold rpart;omega
 have hrp:rpart x<1000000:=by omega
 have hj:=hid (fun v0 v1 v2 W (hr:BR3 v0 v1 v2 (rbag x) W)=>rjoined_any (rpart x) v0 v1 v2 (rbag x) 2 W hr hbn.out qd hrp)
 have hg:=qh (rbag x=bremove nb (rdot x)) (by unfold rbag;rw [if_neg oe])
 have hw1:wrap64 (1+bits .and .i64 x.n 3)=1+bits .and .i64 x.n 3:=by unfold wrap64;omega
 have hw2:wrap64 (1+bits .and .i64 (x.n / 4) 7)=1+bits .and .i64 (x.n / 4) 7:=by unfold wrap64;omega
 have hput:=hid (fun W=>rremove_ok (.slice none 0 0) (.slice none 0 0) (.slice none 0 0) nb (rdot x) W ⟨Row.nil _ _,Row.nil _ _,Row.nil _ _⟩ (rdot_chk x) qd qd (by simp [nb]))
 have hmv:dv (rdot x)=.agg #[.int .i64 (1+bits .and .i64 x.n 3),.int .i64 (1+bits .and .i64 (x.n / 4) 7)]:=rfl
 rw [hmv] at hput
 unfold BagT at hput
 rw [hg.out] at hj ht ⊢
 clear hbn
 generalize hGe:bremove nb (rdot x)=G at *
 clear hGe hg hmv
 generalize rpart x=PT at *
 obtain ⟨k,n,p,raw⟩:=x
 unfold K7 at hK
 unfold rcV
 dsimp only at *
 obtain ⟨wz,hwz⟩:=qe ((w.alloc (.cells #[.int .i64 k,.int .i64 n,.int .i64 p,.string (bs raw)] 39)).alloc (.cells #[.int .i64 (1+bits .and .i64 n 3),.int .i64 (1+bits .and .i64 (n / 4) 7)] 28))
 have Hpz:=qh (Pure w wz) (by rw [hwz];exact qp.alloc qb _)
 have hbz:=qh (wz.heap[w.heap.size]?=some (.cells #[.int .i64 k,.int .i64 n,.int .i64 p,.string (bs raw)] 39 (0,0))) (by rw [hwz];exact bao (ban _ _) _)
 clear ht hpp h1 h2 h3
 go_enter Tryz.func15,Tryz.ntmps15
 go_wp2_with fail
 rw [←hwz]
 clear hwz
 refine (hput.out _).mono ?_
 rintro e w1 ⟨v0,v1,v2,rfl,⟨hm0,hm1,hm2⟩,hp,-⟩
 obtain ⟨a0,c0,rfl⟩:=Row.shape hm0
 obtain ⟨a1,c1,rfl⟩:=Row.shape hm1
 obtain ⟨a2,c2,rfl⟩:=Row.shape hm2
 have hpa:∀o,Pure wz (w1.alloc o):=fun o=>Pure.then_ hp ((Below.refl _ _).alloc (Nat.le_refl _) o)
 have hcp:(w1.alloc (.cells #[.slice a0 G.1.length c0,.slice a1 G.2.1.length c1,.slice a2 G.2.2.length c2] 34)).cell? ⟨w.heap.size,2,none⟩=some (.int .i64 p):=cob (((hpa _).block _ (lob hbz.out)).trans hbz.out) 2
 have Hb:=qh (BR3 (.slice a0 G.1.length c0) (.slice a1 G.2.1.length c1) (.slice a2 G.2.2.length c2) G (w1.alloc (.cells #[.slice a0 G.1.length c0,.slice a1 G.2.1.length c1,.slice a2 G.2.2.length c2] 34))) (BR3.pure ⟨hm0,hm1,hm2⟩ qp)
 have Hpa:=hid (fun o=>Hpz.out.then_ (hpa o))
 clear hput hm0 hm1 hm2 hp hpa
 go_wp2_with fail
 refine (hj.out _ _ _ _ Hb.out).mono ?_
 rintro e w2 ⟨rfl,hp2⟩
 have Hp2:=hid hp2
 clear hp2
 go_wp2
 go_ret
 exact ⟨rfl,(Hpa.out _).then_ Hp2.out⟩
theorem tx5 (x:Rc) (w:World) (hK:K7 x=5) :
 Calls Tryz.prog 15 #[rcV x] w (TxP x w):=by
 have ht:rtext x=86::viewB [rpr x]:=by unfold rtext;simp only [hK];simp
 unfold TxP
 rw [ht]
 have h1:=andK x.n 3 qd
 have h2:=andK (x.n / 4) 7 qd
 have h3:=andK (x.n / 32) 3 qd
 have h4:=andK (x.n / 128) 31 qd
 have hw1:wrap64 (1+bits .and .i64 x.n 3)=1+bits .and .i64 x.n 3:=by unfold wrap64;omega
 have hw2:wrap64 (1+bits .and .i64 (x.n / 4) 7)=1+bits .and .i64 (x.n / 4) 7:=by unfold wrap64;omega
 have hrow:=hid (fun W:World=>(show GRow pcells 3 (W.alloc (.cells #[.int .i64 (1+bits .and .i64 x.n 3),.int .i64 (bits .and .i64 (x.n / 4) 3),.int .i64 (bits .and .i64 (x.n / 16) 1)] 92)) (.slice (some ⟨W.heap.size,0,none⟩) 1 1) [rpr x] from lit_g W 92 (rpr x) 3 rfl rfl))
 have hc:=hid (fun v W (hr:GRow pcells 3 W v [rpr x])=>rseen_any v [rpr x] W hr (rpr_ok x))
 generalize viewB [rpr x]=L at *
 generalize [rpr x]=RW at *
 obtain ⟨k,n,p,raw⟩:=x
 unfold K7 at hK
 unfold rcV
 dsimp only at *
 have hp1:∀a b c,Pure w (((w.alloc a).alloc b).alloc c):=fun a b c=>(((Below.refl _ _).alloc (Nat.le_refl _) a).alloc qb b).alloc qc c
 have HP:=hid hp1
 clear hp1 ht h1 h2 h3 h4
 go_enter Tryz.func15,Tryz.ntmps15
 go_wp2_with fail
 refine (hc.out _ _ (by have:=hrow.out ((w.alloc (.cells #[.int .i64 k,.int .i64 n,.int .i64 p,.string (bs raw)] 39)).alloc (.cells #[.int .i64 (1+bits .and .i64 n 3),.int .i64 (1+bits .and .i64 (n / 4) 7)] 28));rw [World.size_alloc,World.size_alloc] at this;exact this)).mono ?_
 rintro e w1 ⟨rfl,hp⟩
 have Hp:=hid hp
 clear hp
 go_wp2
 go_ret
 exact ⟨rfl,(HP.out _ _ _).then_ Hp.out⟩
theorem tx6 (x:Rc) (w:World) (hK:K7 x=6) :
 Calls Tryz.prog 15 #[rcV x] w (TxP x w):=by
 have ht:rtext x=72::holdsB [rhold x]:=by unfold rtext;simp only [hK];simp
 unfold TxP
 rw [ht]
 have h1:=andK x.n 3 qd
 have h2:=andK (x.n / 4) 7 qd
 have h3:=andK (x.n / 32) 3 qd
 have h4:=andK (x.n / 128) 31 qd
 have hw1:wrap64 (1+bits .and .i64 x.n 3)=1+bits .and .i64 x.n 3:=by unfold wrap64;omega
 have hw2:wrap64 (1+bits .and .i64 (x.n / 4) 7)=1+bits .and .i64 (x.n / 4) 7:=by unfold wrap64;omega
 have hw3:wrap64 (1+bits .and .i64 (x.n / 32) 3)=1+bits .and .i64 (x.n / 32) 3:=by unfold wrap64;omega
 have hw4:wrap64 (1+bits .and .i64 (x.n / 128) 31)=1+bits .and .i64 (x.n / 128) 31:=by unfold wrap64;omega
 have hrow:=hid (fun W:World=>(show GRow hcells 4 (W.alloc (.cells #[.int .i64 (1+bits .and .i64 x.n 3),.int .i64 (1+bits .and .i64 (x.n / 4) 7),.int .i64 (1+bits .and .i64 (x.n / 32) 3),.int .i64 (1+bits .and .i64 (x.n / 128) 31)] 94)) (.slice (some ⟨W.heap.size,0,none⟩) 1 1) [rhold x] from lit_g W 94 (rhold x) 4 rfl rfl))
 have hc:=hid (fun v W (hr:GRow hcells 4 W v [rhold x])=>rheld_any v [rhold x] W hr (rhold_ok x))
 generalize holdsB [rhold x]=L at *
 generalize [rhold x]=RW at *
 obtain ⟨k,n,p,raw⟩:=x
 unfold K7 at hK
 unfold rcV
 dsimp only at *
 have hp1:∀a b c,Pure w (((w.alloc a).alloc b).alloc c):=fun a b c=>(((Below.refl _ _).alloc (Nat.le_refl _) a).alloc qb b).alloc qc c
 have HP:=hid hp1
 clear hp1 ht h1 h2 h3 h4
 go_enter Tryz.func15,Tryz.ntmps15
 go_wp2_with fail
 refine (hc.out _ _ (by have:=hrow.out ((w.alloc (.cells #[.int .i64 k,.int .i64 n,.int .i64 p,.string (bs raw)] 39)).alloc (.cells #[.int .i64 (1+bits .and .i64 n 3),.int .i64 (1+bits .and .i64 (n / 4) 7)] 28));rw [World.size_alloc,World.size_alloc] at this;exact this)).mono ?_
 rintro e w1 ⟨rfl,hp⟩
 have Hp:=hid hp
 clear hp
 go_wp2
 go_ret
 exact ⟨rfl,(HP.out _ _ _).then_ Hp.out⟩
theorem tx4 (x:Rc) (w:World) (hK:K7 x=4) :
 Calls Tryz.prog 15 #[rcV x] w (TxP x w):=by
 have ht:rtext x=78::tagsB [rtag x]:=by unfold rtext;simp only [hK];simp
 unfold TxP
 rw [ht]
 have h1:=andK x.n 3 qd
 have h2:=andK (x.n / 4) 7 qd
 have hw2:wrap64 (1+bits .and .i64 (x.n / 4) 7)=1+bits .and .i64 (x.n / 4) 7:=by unfold wrap64;omega
 have hok:=hid (rtag_ok x)
 have hrow:=hid (fun (W:World) (nn:Nat) (hn:nn=W.heap.size)=>(show Tags (W.alloc (.cells #[.string (bs (rtag x).1),.int .i64 (rtag x).2] 90)) (.slice (some ⟨nn,0,none⟩) 1 1) [rtag x] from by subst hn;exact tags_lit W (rtag x)))
 have hc:=hid (fun v W (hr:Tags W v [rtag x])=>rtagged_any v [rtag x] W hr (rtag_ok x))
 have ht2:(rtag x).2=1+bits .and .i64 (x.n / 4) 7:=rfl
 have ht1:(rtag x).1=[UInt8.ofNat (97+(bits .and .i64 x.n 3).toNat)]:=rfl
 rw [ht1,ht2] at hrow
 generalize tagsB [rtag x]=L at *
 generalize [rtag x]=RW at *
 obtain ⟨k,n,p,raw⟩:=x
 unfold K7 at hK
 unfold rcV
 dsimp only at *
 have hp1:∀a b c d,Pure w ((((w.alloc a).alloc b).alloc c).alloc d):=fun a b c d=>((((Below.refl _ _).alloc (Nat.le_refl _) a).alloc qb b).alloc qc c).alloc qc d
 have HP:=hid hp1
 have hb:bits .and .i64 n 3=0∨bits .and .i64 n 3=1∨bits .and .i64 n 3=2∨bits .and .i64 n 3=3:=by omega
 clear hp1 ht h1 h2 ht1 ht2 hok
 rcases hb with hb|hb|hb|hb
 all_goals
  rw [hb] at hrow
  have hcv:=fun c hc=>byte_conv ((w.alloc (.cells #[.int .i64 k,.int .i64 n,.int .i64 p,.string (bs raw)] 39)).alloc (.cells #[.int .i64 (1+bits .and .i64 n 3),.int .i64 (1+bits .and .i64 (n / 4) 7)] 28)) c hc
  rw [hb] at hcv
  simp only [World.size_alloc] at hcv
  have q0:=hcv 97 qd
  have q1:=hcv 98 qd
  have q2:=hcv 99 qd
  have q3:=hcv 100 qd
  clear hcv
  simp only [Int.reduceAdd,Int.cast_ofNat_Int] at q0 q1 q2 q3
  go_enter Tryz.func15,Tryz.ntmps15
  go_wp2_with fail
  refine (hc.out _ _ (hrow.out _ _ qb)).mono ?_
  rintro e w1 ⟨rfl,hp⟩
  have Hp:=hid hp
  clear hp
  go_wp2
  go_ret
  exact ⟨rfl,(HP.out _ _ _ _).then_ Hp.out⟩
theorem tx7 (x:Rc) (w:World) (hK:7≤K7 x) :
 Calls Tryz.prog 15 #[rcV x] w (TxP x w):=by
 have ht:rtext x=x.raw.take 60:=by
  unfold rtext
  rw [if_neg oe,if_neg oe,if_neg oe,if_neg oe,if_neg oe,if_neg oe]
 unfold TxP
 rw [ht]
 have h7:=andK x.k 7 qd
 have hK' : K7 x=7:=by unfold K7 at *;omega
 obtain ⟨k,n,p,raw⟩:=x
 unfold K7 at hK'
 unfold rcV
 dsimp only at *
 have hp1:∀a b,Pure w ((w.alloc a).alloc b):=fun a b=>((Below.refl _ _).alloc (Nat.le_refl _) a).alloc qb b
 have HP:=hid hp1
 have hsz:(bs raw).size=raw.length:=bs_size raw
 clear hp1 ht h7 hK
 by_cases hl:raw.length≤60
 ·rw [List.take_of_length_le hl]
  have hl' : ¬(60:Int)<(raw.length:Int):=by omega
  go_enter Tryz.func15,Tryz.ntmps15
  go_wp2
  go_ret
  exact ⟨rfl,HP.out _ _⟩
 ·have hl' : (60:Int)<(raw.length:Int):=by omega
  have hx:(bs raw).extract 0 60=bs (raw.take 60):=bs_take _ _
  go_enter Tryz.func15,Tryz.ntmps15
  go_wp2
  go_ret
  exact ⟨rfl,HP.out _ _⟩
theorem text_any (x:Rc) (w:World) (hn:x.n<9223372036854775808):Calls Tryz.prog 15 #[rcV x] w (TxP x w):=by
 have h7:=andK x.k 7 qd
 have hK:K7 x=0∨K7 x=1∨K7 x=2∨K7 x=3∨K7 x=4∨K7 x=5∨K7 x=6∨7≤K7 x:=by unfold K7;omega
 rcases hK with h|h|h|h|h|h|h|h
 ·exact tx0 x w h
 ·exact tx1 x w h hn
 ·exact tx2 x w h
 ·exact tx3 x w h
 ·exact tx4 x w h
 ·exact tx5 x w h
 ·exact tx6 x w h
 ·exact tx7 x w h
end Go.Proofs.YtdlpnhfgjficgaaGreat
