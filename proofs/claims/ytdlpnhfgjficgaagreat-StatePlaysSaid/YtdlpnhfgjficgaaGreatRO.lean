import Derived.Test.YtdlpnhfgjficgaaGreatWB
import Derived.Deep.Slices
import Derived.Deep.Fields
import Derived.ChangeSame
set_option maxHeartbeats 1000000
set_option maxRecDepth 8000
namespace Go.Proofs.YtdlpnhfgjficgaaGreat
open Go.RowKit Go.Maps Go.ChangeShapes Go.WideShapes Go.Deep
def rcells (x:Rc):List Value:=[.int .i64 x.k,.int .i64 x.n,.int .i64 x.p,.string (bs x.raw)]
def rc0:Rc:=⟨0,0,0,[]⟩
theorem rcenc:Enc rcells 4:=⟨fun _=>rfl,fun a u hu=>by simp [rcells] at hu;rcases hu with rfl|rfl|rfl|rfl <;> rfl⟩
def Rwf (x:Rc):Prop:=x.n<9223372036854775808
abbrev Recs (w:World) (v:Value) (l:List Rc):Prop:=GRow rcells 4 w v l
structure RecsIn (w:World) (a:Option Addr) (len cap:Nat) (l:List Rc):Prop where
 n:l.length=len
 r:Recs w (.slice a len cap) l
 wf:∀x ∈ l,Rwf x
theorem bs_of (B:ByteArray):∃l,B=bs l:=⟨B.data.toList,by cases B;simp [bs]⟩
theorem wf_lt {n:Int} (h:(Lit.int .i64 n).wf=true):n<9223372036854775808:=by
 simp only [Lit.wf,Bool.and_eq_true,decide_eq_true_eq] at h
 have e:IntKind.i64.max=9223372036854775807:=by decide
 rw [e] at h
 omega
theorem rec_cells {H:Type} {enc:TypeId × Value→H} {W:World} {base:Nat} {held:Bool} {fuel:Nat} {x:DataW H × List MemPlace} {c0 c1 c2 c3:Value}
 (h:DataW.trod enc Tryz.prog W base (fun _=>true) held fuel 39 [c0,c1,c2,c3]=some x):∃m:Rc,c0=.int .i64 m.k∧c1=.int .i64 m.n∧c2=.int .i64 m.p∧c3=.string (bs m.raw)∧Rwf m:=by
 have hC3:Tryz.prog.cellsOf 3=1:=by kernel_rfl
 have hC9:Tryz.prog.cellsOf 9=1:=by kernel_rfl
 obtain ⟨ys,n',_,_,_,hyl,hg⟩:=DataW.trod_struct Tryz.underlying39 h
 match ys,hyl with
 | [y0,y1,y2,y3],_ =>
   have g0:DataW.trod enc Tryz.prog W base (fun _=>true) held n' 3 (List.take (Tryz.prog.cellsOf 3) [c0,c1,c2,c3])=some y0:=hg 0 _ rfl
   have g1:DataW.trod enc Tryz.prog W base (fun _=>true) held n' 3 (List.take (Tryz.prog.cellsOf 3) [c1,c2,c3])=some y1:=hg 1 _ rfl
   have g2:DataW.trod enc Tryz.prog W base (fun _=>true) held n' 3 (List.take (Tryz.prog.cellsOf 3) [c2,c3])=some y2:=hg 2 _ rfl
   have g3:DataW.trod enc Tryz.prog W base (fun _=>true) held n' 9 (List.take (Tryz.prog.cellsOf 9) [c3])=some y3:=hg 3 _ rfl
   rw [hC9] at g3
   rw [hC3] at g0 g1 g2
   simp only [List.take_succ_cons,List.take_zero] at g0 g1 g2 g3
   obtain ⟨z0,e0,_⟩:=DataW.trod_int Tryz.underlying3 g0
   obtain ⟨z1,e1,hw1⟩:=DataW.trod_int Tryz.underlying3 g1
   obtain ⟨z2,e2,_⟩:=DataW.trod_int Tryz.underlying3 g2
   obtain ⟨q,e3,_⟩:=DataW.trod_string Tryz.underlying9 g3
   simp only [List.cons.injEq,and_true] at e0 e1 e2 e3
   obtain ⟨lq,rfl⟩:=bs_of q
   exact ⟨⟨z0,z1,z2,lq⟩,e0,e1,e2,e3,wf_lt (by first|exact hw1|exact hw1.1|exact hw1.2)⟩
theorem recs_of_trod {H:Type} {enc:TypeId × Value→H} {W:World} {base:Nat} {held:Bool} {a:Option Addr} {len cap fuel:Nat} {x:DataW H × List MemPlace}
 (h:DataW.trod enc Tryz.prog W base (fun _=>true) held fuel 22 [.slice a len cap]=some x):∃l,RecsIn W a len cap l:=by
 rcases open_slice Tryz.underlying22 h with ⟨hcs,_⟩|⟨ad,len',cap',m,n,D,Pl,hcs,_,hl,hm,hmm,_,hi⟩
 ·simp at hcs
  obtain ⟨rfl,rfl,rfl⟩:=hcs
  exact ⟨[],rfl,Row.nil _ _,by simp⟩
 ·simp at hcs
  obtain ⟨rfl,rfl,rfl⟩:=hcs
  simp only [if_true] at hmm
  subst hmm
  have hC:Tryz.prog.cellsOf 39=4:=by kernel_rfl
  have:Inhabited Rc:=⟨rc0⟩
  obtain ⟨f,hf⟩:=choose_lt (α:=Rc) (n:=m) (p:=fun k t=>(∀j,j<4→W.cell? (ad.add (k*4+j))=(rcells t)[j]?)∧Rwf t) (fun k hk=>by
   obtain ⟨cs',hc,ht⟩:=hi k hk
   rw [hC] at hc
   obtain ⟨_,hcl,hat⟩:=World.cells?_some hc
   match cs',hcl with
   | [c0,c1,c2,c3],_ =>
     obtain ⟨z,rfl,rfl,rfl,rfl,hw⟩:=rec_cells ht
     refine ⟨z,fun j hj=>?_,hw⟩
     have a0:=hat j hj
     rw [Go.Deep.add_add] at a0
     rw [a0];rfl)
  have hll:((List.range len).map f).length=len:=by simp
  refine ⟨(List.range len).map f,hll,?_,fun x hx=>?_⟩
  ·unfold Recs GRow
   rw [hll]
   refine ⟨by rw [gvs_len rcenc,hll],some ad,m,rfl,hl,hm,?_⟩
   by_cases h0:m=0
   ·exact .inl h0
   ·right
    obtain ⟨b,off,spot⟩:=ad
    have hb1:W.cell? (Addr.add ⟨b,off,spot⟩ (0*4+0))=some (.int .i64 (f 0).k):=(hf 0 oe).1 0 qd
    have hspot:spot=none:=by simpa [Addr.add] using World.cell?_spot hb1
    subst hspot
    rw [Addr.add_lit] at hb1
    refine ⟨b,off,rfl,World.block_lt_of_cell? W _ hb1,fun i hi'=>?_⟩
    have hk:i / 4<len:=by omega
    have d0:=gvs_get rcenc rc0 ((List.range len).map f) (i / 4) (by rw [hll];exact hk) (i % 4) oe
    have e:((List.range len).map f).getD (i / 4) rc0=f (i / 4):=by simp [List.getD,hk]
    rw [e] at d0
    have c0:=(hf (i / 4) oe).1 (i % 4) oe
    rw [Addr.add_lit] at c0
    have ei:i / 4*4+i % 4=i:=by omega
    rw [ei] at d0 c0
    rw [d0];exact c0
  ·obtain ⟨k,hk,rfl⟩:=List.mem_map.1 hx
   exact (hf k (by have:=List.mem_range.1 hk;omega)).2
theorem Recs.get {w:World} {a:Option Addr} {n cap:Nat} {l:List Rc} (h:Recs w (.slice a n cap) l) {k:Nat} (hk:k<l.length) :
 ∃b off,a=some ⟨b,off,none⟩∧b<w.heap.size∧w.cell? ⟨b,off+k*4,none⟩=some (.int .i64 (l.getD k rc0).k)∧w.cell? ⟨b,off+k*4+1,none⟩=some (.int .i64 (l.getD k rc0).n)∧w.cell? ⟨b,off+k*4+2,none⟩=some (.int .i64 (l.getD k rc0).p)∧w.cell? ⟨b,off+k*4+3,none⟩=some (.string (bs (l.getD k rc0).raw)):=by
 have e:n=l.length:=by obtain ⟨a',c',e⟩:=GRow.shape h;injection e
 subst e
 obtain ⟨b,off,e,hb,hc⟩:=GRow.get h rcenc rc0 hk
 exact ⟨b,off,e,hb,hc 0 oe,hc 1 oe,hc 2 oe,hc 3 oe⟩
end Go.Proofs.YtdlpnhfgjficgaaGreat
