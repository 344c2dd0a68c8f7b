import Derived.Test.YtdlpnhfgjficgaaGreatMX27
set_option maxHeartbeats 4000000
set_option maxRecDepth 8000
namespace Go.Proofs.YtdlpnhfgjficgaaGreat
open Go.RowKit Go.Maps Go.Shelf
theorem rdg_spec:∀(f n:Nat) (l:List UInt8) (m:Nat) (r:List UInt8),rdg f n l=some (m,r)→∃(p:List UInt8) (c:UInt8),l=p++c::r∧(∀x ∈ p,128≤x.toNat)∧c.toNat<128∧m=(p.foldl (fun n c=>n*128+(c.toNat-128)) n)*128+c.toNat
 | 0,_,_,_,_,h=>by simp [rdg] at h
 | _+1,_,[],_,_,h=>by simp [rdg] at h
 | f+1,n,c::l,m,r,h=>by
   rw [rdg] at h
   split at h
   ·cases h
   ·split at h
    ·rename_i h1
     injection h with h
     injection h with h2 h3
     subst h3
     exact ⟨[],c,rfl,(fun x hx=>by cases hx),h1,h2.symm⟩
    ·rename_i h1
     obtain ⟨p,d,e1,e2,e3,e4⟩:=rdg_spec f _ l m r h
     refine ⟨c::p,d,by rw [e1];rfl,fun x hx=>?_,e3,by rw [e4,List.foldl_cons]⟩
     rcases List.mem_cons.1 hx with rfl|hx
     ·omega
     ·exact e2 x hx
theorem rd_canon {l:List UInt8} {n:Nat} {r:List UInt8} (h:rdNum (some l)=(n,some r)):l=num n++r:=by
 have hlt:=rdNum_lt (some l)
 rw [h] at hlt
 unfold rdNum at h
 dsimp only at h
 cases e:rnumL l with
 | none=>rw [e] at h;simp at h
 | some q =>
   obtain ⟨m,t⟩:=q
   rw [e] at h
   simp at h
   obtain ⟨rfl,rfl⟩:=h
   unfold rnumL at e
   split at e
   ·cases e
   ·rename_i hh
    obtain ⟨p,c,e1,e2,e3,e4⟩:=rdg_spec _ _ _ _ _ e
    have hv:m=vl p*128+c.toNat:=e4
    have hd:=(num_digits e2 e3 (by rw [←hv];exact hlt)).2 (by
     intro h2
     apply hh
     rw [e1]
     cases p with
     | nil=>simpa using h2
     | cons a p=>simpa using h2)
    rw [hv,hd,e1,List.append_assoc];rfl
theorem rdInt_canon {most v:Int} {l r:List UInt8} (h:rdInt most (some l)=(v,some r)):l=num v.toNat++r:=by
 unfold rdInt at h
 split at h
 ·cases h
 ·rename_i n t e
  split at h
  ·cases h
  ·injection h with h1 h2
   injection h2 with h2
   subst h1;subst h2
   rw [Int.toNat_natCast]
   exact rd_canon e
theorem num_inj {a b:Nat} (ha:a<9223372036854775808) (hb:b<9223372036854775808) (h:num a=num b):a=b:=by
 have e1:=rdInt_num 9223372036854775807 a oe oe []
 have e2:=rdInt_num 9223372036854775807 b oe oe []
 rw [h,e2] at e1
 simp at e1
 omega
theorem kept_new {w w' : World} (h:Kept (fun k=>k=w.heap.size) w w'):Pure w w':=h.below (Nat.le_refl _) (fun k hk e=>by omega)
def RAt (n:Nat) (a u:Int) (r:List Value) (w:World):Prop:=w.heap[n]?=some (.cells (List.toArray (.int .i64 a :: .int .i64 u::r)) 53 (0,0))
section
variable {n:Nat} {a u:Int} {r:List Value} {w w' : World}
theorem RAt.lt (h:RAt n a u r w):n<w.heap.size:=lob h
theorem RAt.kept {S:Nat→Prop} (h:RAt n a u r w) (hk:Kept S w w') (hS:¬S n):RAt n a u r w':=(hk.block n (lob h) hS).trans h
theorem RAt.pure (h:RAt n a u r w) (hp:Pure w w'):RAt n a u r w':=h.kept (S:=fun _=>False) hp.kept (fun h=>h)
theorem RAt.cells (h:RAt n a u r w):w.cell? ⟨n,0,none⟩=some (.int .i64 a)∧w.cell? ⟨n,1,none⟩=some (.int .i64 u)∧w.frozen? ⟨n,0,none⟩=false∧w.frozen? ⟨n,1,none⟩=false:=by
 have c0:=cob h 0
 have c1:=cob h 1
 simp at c0 c1
 exact ⟨c0,c1,fob h 0,fob h 1⟩
theorem RAt.at2 (h:RAt n a u r w) {j j' : Nat} {v:Value} (hv:r[j]?=some v) (e:j'=j+2):w.cell? ⟨n,j',none⟩=some v∧w.frozen? ⟨n,j',none⟩=false:=by
 subst e
 refine ⟨?_,fob h _⟩
 have:=cob h (j+2)
 simpa [hv] using this
theorem RAt.set2 (h:RAt n a u r w) (j:Nat) {j' : Nat} (e:j'=j+2) (v:Value):RAt n a u (r.set j v) (w.setCell ⟨n,j',none⟩ v):=by
 subst e
 unfold RAt
 have:=bsc h (j+2) v
 simpa using this
theorem RAt.setId (h:RAt n a u r w) (b:Int):RAt n b u r (w.setCell ⟨n,0,none⟩ (.int .i64 b)):=by
 unfold RAt
 have:=bsc h 0 (.int .i64 b)
 simpa using this
theorem RAt.setUp (h:RAt n a u r w) (b:Int):RAt n a b r (w.setCell ⟨n,1,none⟩ (.int .i64 b)):=by
 unfold RAt
 have:=bsc h 1 (.int .i64 b)
 simpa using this
end
def RSt2 (n m:Nat) (S:SD) (w:World):Prop:=∃r,RAt n S.id S.up r w∧SRows n r S w∧SRows m r S w
theorem RSt2.pure {n m:Nat} {S:SD} {w w' : World} (h:RSt2 n m S w) (hp:Pure w w'):RSt2 n m S w':=by
 obtain ⟨r,h1,h2,h3⟩:=h;exact ⟨r,h1.pure hp,h2.pure hp,h3.pure hp⟩
theorem RSt2.lt {n m:Nat} {S:SD} {w:World} (h:RSt2 n m S w):n<w.heap.size:=by obtain ⟨r,h1,_⟩:=h;exact h1.lt
theorem RSt2.keep {n c:Nat} {S:SD} {w w' : World} (h:RSt2 n c S w) (hk:Kept (fun k=>k=c) w w') (hn:n≠c):RSt2 n c S w':=by
 obtain ⟨r,h1,h2,h3⟩:=h
 exact ⟨r,h1.kept hk hn,h2.kept2 h3 hk,h3.kept hk⟩
theorem SRows.ids {n:Nat} {r:List Value} {S:SD} {w:World} (h:SRows n r S w) (a u:Int):SRows n r { S with id:=a,up:=u } w:=⟨h.len,h.bag,h.tags,h.view,h.holds⟩
def RApP (n m:Nat) (S:SD) (E:Int) (w:World) (e:Ending) (w' : World):Prop:=e=.returned (.int .i64 E)∧RSt2 n m S w'∧Kept (fun k=>k=n) w w'
theorem rdE_bad {s:RS} (h:s≠some []):rdE s=10:=by
 cases s with
 | none=>rfl
 | some l=>cases l with
   | nil=>exact absurd rfl h
   | cons a l=>rfl
theorem RSt2.cells {n m:Nat} {S:SD} {w:World} (h:RSt2 n m S w):w.cell? ⟨n,0,none⟩=some (.int .i64 S.id)∧w.cell? ⟨n,1,none⟩=some (.int .i64 S.up)∧w.frozen? ⟨n,0,none⟩=false∧w.frozen? ⟨n,1,none⟩=false:=by obtain ⟨r,h1,_⟩:=h;exact h1.cells
theorem rapply_I (n m:Nat) (S:SD) (l:List UInt8) (w:World) (h:RSt2 n m S w) (hi0:0≤S.id) (hi1:S.id≤1099511627776) :
 Calls Tryz.prog 18 #[.pointer (some ⟨n,0,none⟩),.string (bs (73::l))] w (RApP n m { S with id:=(apI S.id l).1 } (apI S.id l).2 w):=by
 have Hlt:=hid h.lt
 have H:=hid h
 have hx1:(bs (73::l)).extract 0 1=⟨#[73]⟩:=by
  rw [bs_take];rfl
 have hx2:(bs (73::l)).extract 1 (l.length+1)=bs l:=by
  rw [bs_drop _ _ _ qb];rfl
 have hsz:(bs (73::l)).size=l.length+1:=by rw [bs_size];simp
 have hne:((bs (73::l)).toList=[])=False:=by rw [bs_listt];simp
 have hne2:((bs (73::l)).toList == [])=false:=by rw [bs_listt];rfl
 obtain ⟨W0,hW0⟩:=qe (w.alloc (.cells #[.string (bs l),.bool false] 98))
 have H0:=qh (RdK 98 w.heap.size (some l) w W0) (by rw [hW0];exact ⟨⟨l,false,ban _ _,rfl⟩,(Kept.refl _ _).alloc _⟩)
 have hi:=hid (rintr_any w.heap.size (some l) 1099511627776 W0 H0.out.r qd qd)
 unfold RdP at hi
 have hA:=qh (apI S.id l=if (rdInt 1099511627776 (some l)).1<1∨(rdInt 1099511627776 (some l)).2≠some [] then (S.id,10) else if S.id≠0∧num S.id.toNat≠l then (S.id,13) else ((rdInt 1099511627776 (some l)).1,0)) (rfl)
 have hcan:=hid (fun v r (e:rdInt 1099511627776 (some l)=(v,some r))=>rdInt_canon e)
 have hbd:=rdInt_bd 1099511627776 (some l)
 generalize apI S.id l=Z at *
 generalize rdInt 1099511627776 (some l)=R at *
 obtain ⟨v,s1⟩:=R
 dsimp only at hi hA hbd
 have hbd2:=hbd.2 qd
 have hend:=hid (fun W (hW:RdAt 98 w.heap.size s1 W)=>rend_any w.heap.size s1 W hW)
 obtain ⟨E,hE⟩:=qe (rdE s1)
 rw [←hE] at hend
 clear h hbd
 by_cases hs:s1=some []
 ·subst hs
  obtain rfl:E=0:=hE
  by_cases hv:v<1
  ·have hZ:Z=(S.id,10):=by rw [hA.out,if_pos (.inl hv)]
   subst hZ
   clear hA
   clear hcan
   go_enter Tryz.func18,Tryz.ntmps18
   go_wp2_with fail
   rw [←hW0]
   clear hW0
   refine hi.out.mono ?_
   rintro e w1 ⟨rfl,hr1,hk1⟩
   have H1:=hid (H0.out.next hr1 hk1)
   have HP1:=hid (kept_new H1.out.k)
   clear hr1 hk1
   go_wp2_with fail
   refine (hend.out w1 H1.out.r).mono ?_
   rintro e w2 ⟨rfl,rfl⟩
   go_wp2
   go_ret
   exact ⟨rfl,H.out.pure HP1.out,HP1.out.kept⟩
  ·have hv2:¬v<1:=hv
   have hl:l=num v.toNat:=by have:=hcan.out v [] rfl;simpa using this
   by_cases h0:S.id=0
   ·have hZ:Z=(v,0):=by rw [hA.out,if_neg (by rintro (h|h);exact hv h;exact h rfl),if_neg (by rintro ⟨h,_⟩;exact h h0)]
    subst hZ
    clear hA hcan hl
    go_enter Tryz.func18,Tryz.ntmps18
    go_wp2_with fail
    rw [←hW0]
    clear hW0
    refine hi.out.mono ?_
    rintro e w1 ⟨rfl,hr1,hk1⟩
    have H1:=hid (H0.out.next hr1 hk1)
    have HP1:=hid (kept_new H1.out.k)
    clear hr1 hk1
    go_wp2_with fail
    refine (hend.out w1 H1.out.r).mono ?_
    rintro e w2 ⟨rfl,rfl⟩
    obtain ⟨r,hA1,hR1,hM1⟩:=H.out.pure HP1.out
    obtain ⟨c0,-,f0,-⟩:=hA1.cells
    have HA1:=hid hA1
    have HR1:=hid hR1
    have HM1:=hid hM1
    clear hA1 hR1 hM1
    rw [h0] at c0
    go_wp2
    go_ret
    have hk:=kset w1 n 0 (.int .i64 v)
    exact ⟨rfl,⟨r,HA1.out.setId v,(HR1.out.kept hk).ids v S.up,(HM1.out.kept2 HR1.out hk).ids v S.up⟩,HP1.out.kept.trans hk⟩
   ·by_cases he:S.id=v
    ·have hZ:Z=(v,0):=by rw [hA.out,if_neg (by rintro (h|h);exact hv h;exact h rfl),if_neg (by rintro ⟨_,h⟩;exact h (by rw [he,hl]))]
     subst hZ
     have hb0:(S.id == 0)=false:=by simpa using h0
     have hb1:(S.id == v)=true:=by simpa using he
     clear hA hcan hl
     go_enter Tryz.func18,Tryz.ntmps18
     go_wp2_with fail
     rw [←hW0]
     clear hW0
     refine hi.out.mono ?_
     rintro e w1 ⟨rfl,hr1,hk1⟩
     have H1:=hid (H0.out.next hr1 hk1)
     have HP1:=hid (kept_new H1.out.k)
     clear hr1 hk1
     go_wp2_with fail
     refine (hend.out w1 H1.out.r).mono ?_
     rintro e w2 ⟨rfl,rfl⟩
     obtain ⟨r,hA1,hR1,hM1⟩:=H.out.pure HP1.out
     obtain ⟨c0,-,f0,-⟩:=hA1.cells
     have HA1:=hid hA1
     have HR1:=hid hR1
     have HM1:=hid hM1
     clear hA1 hR1 hM1
     go_wp2
     go_ret
     have hk:=kset w1 n 0 (.int .i64 v)
     exact ⟨rfl,⟨r,HA1.out.setId v,(HR1.out.kept hk).ids v S.up,(HM1.out.kept2 HR1.out hk).ids v S.up⟩,HP1.out.kept.trans hk⟩
    ·have hZ:Z=(S.id,13):=by
      rw [hA.out,if_neg (by rintro (h|h);exact hv h;exact h rfl),if_pos ⟨h0,fun h=>he (by
       rw [hl] at h
       have:=num_inj oe oe h
       omega)⟩]
     subst hZ
     have hb0:(S.id == 0)=false:=by simpa using h0
     have hb1:(S.id == v)=false:=by simpa using he
     have hb2:(S.id != v)=true:=by simpa using he
     have hb3:(S.id != 0)=true:=by simpa using h0
     clear hA hcan hl
     go_enter Tryz.func18,Tryz.ntmps18
     go_wp2_with fail
     rw [←hW0]
     clear hW0
     refine hi.out.mono ?_
     rintro e w1 ⟨rfl,hr1,hk1⟩
     have H1:=hid (H0.out.next hr1 hk1)
     have HP1:=hid (kept_new H1.out.k)
     clear hr1 hk1
     go_wp2_with fail
     refine (hend.out w1 H1.out.r).mono ?_
     rintro e w2 ⟨rfl,rfl⟩
     obtain ⟨c0,-,f0,-⟩:=(H.out.pure HP1.out).cells
     go_wp2
     go_ret
     exact ⟨rfl,H.out.pure HP1.out,HP1.out.kept⟩
 ·have hZ:Z=(S.id,10):=by rw [hA.out,if_pos (.inr hs)]
  subst hZ
  obtain rfl:E=10:=by rw [hE];exact rdE_bad hs
  clear hA hs hE
  clear hcan
  go_enter Tryz.func18,Tryz.ntmps18
  go_wp2_with fail
  rw [←hW0]
  clear hW0
  refine hi.out.mono ?_
  rintro e w1 ⟨rfl,hr1,hk1⟩
  have H1:=hid (H0.out.next hr1 hk1)
  have HP1:=hid (kept_new H1.out.k)
  clear hr1 hk1
  go_wp2_with fail
  refine (hend.out w1 H1.out.r).mono ?_
  rintro e w2 ⟨rfl,rfl⟩
  go_wp2
  go_ret
  exact ⟨rfl,H.out.pure HP1.out,HP1.out.kept⟩
theorem rapply_R (n m:Nat) (S:SD) (l:List UInt8) (w:World) (h:RSt2 n m S w) (_:0≤S.id) (_:S.id≤1099511627776) :
 Calls Tryz.prog 18 #[.pointer (some ⟨n,0,none⟩),.string (bs (82::l))] w (RApP n m { S with up:=(apR S.up l).1 } (apR S.up l).2 w):=by
 have Hlt:=hid h.lt
 have H:=hid h
 have hx1:(bs (82::l)).extract 0 1=⟨#[82]⟩:=by
  rw [bs_take];rfl
 have hx2:(bs (82::l)).extract 1 (l.length+1)=bs l:=by
  rw [bs_drop _ _ _ qb];rfl
 have hsz:(bs (82::l)).size=l.length+1:=by rw [bs_size];simp
 have hne:((bs (82::l)).toList=[])=False:=by rw [bs_listt];simp
 have hne2:((bs (82::l)).toList == [])=false:=by rw [bs_listt];rfl
 obtain ⟨W0,hW0⟩:=qe (w.alloc (.cells #[.string (bs l),.bool false] 98))
 have H0:=qh (RdK 98 w.heap.size (some l) w W0) (by rw [hW0];exact ⟨⟨l,false,ban _ _,rfl⟩,(Kept.refl _ _).alloc _⟩)
 have hi:=hid (rintr_any w.heap.size (some l) 1099511627776 W0 H0.out.r qd qd)
 unfold RdP at hi
 have hA:=qh (apR S.up l=if (rdInt 1099511627776 (some l)).1<1∨(rdInt 1099511627776 (some l)).2≠some [] then (S.up,10) else (max S.up (rdInt 1099511627776 (some l)).1,0)) (rfl)
 have hbd:=rdInt_bd 1099511627776 (some l)
 generalize apR S.up l=Z at *
 generalize rdInt 1099511627776 (some l)=R at *
 obtain ⟨v,s1⟩:=R
 dsimp only at hi hA hbd
 have hbd2:=hbd.2 qd
 have hend:=hid (fun W (hW:RdAt 98 w.heap.size s1 W)=>rend_any w.heap.size s1 W hW)
 obtain ⟨E,hE⟩:=qe (rdE s1)
 rw [←hE] at hend
 clear h hbd
 by_cases hs:s1=some []
 ·subst hs
  obtain rfl:E=0:=hE
  by_cases hv:v<1
  ·have hZ:Z=(S.up,10):=by rw [hA.out,if_pos (.inl hv)]
   subst hZ
   clear hA
   go_enter Tryz.func18,Tryz.ntmps18
   go_wp2_with fail
   rw [←hW0]
   clear hW0
   refine hi.out.mono ?_
   rintro e w1 ⟨rfl,hr1,hk1⟩
   have H1:=hid (H0.out.next hr1 hk1)
   have HP1:=hid (kept_new H1.out.k)
   clear hr1 hk1
   go_wp2_with fail
   refine (hend.out w1 H1.out.r).mono ?_
   rintro e w2 ⟨rfl,rfl⟩
   go_wp2
   go_ret
   exact ⟨rfl,H.out.pure HP1.out,HP1.out.kept⟩
  ·have hv2:¬v<1:=hv
   have hZ:Z=(max S.up v,0):=by rw [hA.out,if_neg (by rintro (h|h);exact hv h;exact h rfl)]
   subst hZ
   clear hA
   by_cases hg:S.up<v
   ·have hmx:max S.up v=v:=by omega
    have Hmx:=hid hmx
    clear hmx
    go_enter Tryz.func18,Tryz.ntmps18
    go_wp2_with fail
    rw [←hW0]
    clear hW0
    refine hi.out.mono ?_
    rintro e w1 ⟨rfl,hr1,hk1⟩
    have H1:=hid (H0.out.next hr1 hk1)
    have HP1:=hid (kept_new H1.out.k)
    clear hr1 hk1
    go_wp2_with fail
    refine (hend.out w1 H1.out.r).mono ?_
    rintro e w2 ⟨rfl,rfl⟩
    obtain ⟨r,hA1,hR1,hM1⟩:=H.out.pure HP1.out
    obtain ⟨-,c0,-,f0⟩:=hA1.cells
    have HA1:=hid hA1
    have HR1:=hid hR1
    have HM1:=hid hM1
    clear hA1 hR1 hM1
    go_wp2
    go_ret
    have hk:=kset w1 n 1 (.int .i64 v)
    exact ⟨rfl,by rw [Hmx.out];exact ⟨r,HA1.out.setUp v,(HR1.out.kept hk).ids S.id v,(HM1.out.kept2 HR1.out hk).ids S.id v⟩,HP1.out.kept.trans hk⟩
   ·have hmx:max S.up v=S.up:=by omega
    have Hmx:=hid hmx
    clear hmx
    go_enter Tryz.func18,Tryz.ntmps18
    go_wp2_with fail
    rw [←hW0]
    clear hW0
    refine hi.out.mono ?_
    rintro e w1 ⟨rfl,hr1,hk1⟩
    have H1:=hid (H0.out.next hr1 hk1)
    have HP1:=hid (kept_new H1.out.k)
    clear hr1 hk1
    go_wp2_with fail
    refine (hend.out w1 H1.out.r).mono ?_
    rintro e w2 ⟨rfl,rfl⟩
    obtain ⟨-,c0,-,f0⟩:=(H.out.pure HP1.out).cells
    go_wp2
    go_ret
    exact ⟨rfl,by rw [Hmx.out];exact H.out.pure HP1.out,HP1.out.kept⟩
 ·have hZ:Z=(S.up,10):=by rw [hA.out,if_pos (.inr hs)]
  subst hZ
  obtain rfl:E=10:=by rw [hE];exact rdE_bad hs
  clear hA hs hE
  go_enter Tryz.func18,Tryz.ntmps18
  go_wp2_with fail
  rw [←hW0]
  clear hW0
  refine hi.out.mono ?_
  rintro e w1 ⟨rfl,hr1,hk1⟩
  have H1:=hid (H0.out.next hr1 hk1)
  have HP1:=hid (kept_new H1.out.k)
  clear hr1 hk1
  go_wp2_with fail
  refine (hend.out w1 H1.out.r).mono ?_
  rintro e w2 ⟨rfl,rfl⟩
  go_wp2
  go_ret
  exact ⟨rfl,H.out.pure HP1.out,HP1.out.kept⟩
theorem tjoin_ref {a b:List Tag} (ha:TV a) (hb:TV b):(tfold a b).take 100=tjoin a b:=by
 rw [tfold_eq ha.r hb.r (fun t ht=>(tmay_n (hb.may t ht)).1)];rfl
theorem rapply_N (n m:Nat) (S:SD) (l:List UInt8) (w:World) (h:RSt2 n m S w) (hm:m<w.heap.size) (hk:TV S.tags) :
 Calls Tryz.prog 18 #[.pointer (some ⟨n,0,none⟩),.string (bs (78::l))] w (RApP n m (apN S l).1 (apN S l).2 w):=by
 have Hlt:=hid h.lt
 have H:=hid h
 have Hm:=hid hm
 have hx1:(bs (78::l)).extract 0 1=⟨#[78]⟩:=by
  rw [bs_take];rfl
 have hx2:(bs (78::l)).extract 1 (l.length+1)=bs l:=by
  rw [bs_drop _ _ _ qb];rfl
 have hsz:(bs (78::l)).size=l.length+1:=by rw [bs_size];simp
 have hne:((bs (78::l)).toList=[])=False:=by rw [bs_listt];simp
 have hne2:((bs (78::l)).toList == [])=false:=by rw [bs_listt];rfl
 obtain ⟨W0,hW0⟩:=qe (w.alloc (.cells #[.string (bs l),.bool false] 98))
 have H0:=qh (RdK 98 w.heap.size (some l) w W0) (by rw [hW0];exact ⟨⟨l,false,ban _ _,rfl⟩,(Kept.refl _ _).alloc _⟩)
 have hi:=hid (rtread_any w.heap.size (some l) W0 H0.out.r)
 unfold RdRowG at hi
 have hA:=qh (apN S l=if (rdTags (some l)).2=some [] then ({ S with tags:=tjoin S.tags (rdTags (some l)).1 },0) else (S,10)) (rfl)
 have hok:=rdTags_ok (some l)
 generalize apN S l=Z at *
 generalize rdTags (some l)=R at *
 obtain ⟨L,s1⟩:=R
 dsimp only at hi hA hok
 have Hok:=hid hok
 have hend:=hid (fun W (hW:RdAt 98 w.heap.size s1 W)=>rend_any w.heap.size s1 W hW)
 obtain ⟨E,hE⟩:=qe (rdE s1)
 rw [←hE] at hend
 clear h hm hok
 by_cases hs:s1=some []
 ·subst hs
  obtain rfl:E=0:=hE
  have hZ:Z=({ S with tags:=tjoin S.tags L },0):=by rw [hA.out,if_pos rfl]
  subst hZ
  clear hA
  go_enter Tryz.func18,Tryz.ntmps18
  go_wp2_with fail
  rw [←hW0]
  clear hW0
  refine hi.out.mono ?_
  rintro e w1 ⟨v1,rfl,hrow1,hfr1,hr1,hk1⟩
  obtain ⟨a1,c1,rfl⟩:=Row.shape hrow1
  have H1:=hid (H0.out.next hr1 hk1)
  have HP1:=hid (kept_new H1.out.k)
  have HR1:=hid hrow1
  have HF1:=hid (fun j hj=>(show w.heap.size≤j from Nat.le_trans H0.out.k.size (hfr1 j hj)))
  clear hr1 hk1 hrow1 hfr1
  go_wp2_with fail
  refine (hend.out w1 H1.out.r).mono ?_
  rintro e w2 ⟨rfl,rfl⟩
  obtain ⟨r,hA1,hRR1,hM1⟩:=H.out.pure HP1.out
  obtain ⟨vT,eT,hT,hfT⟩:=hRR1.tags
  obtain ⟨vT',eT',-,hfT'⟩:=hM1.tags
  obtain rfl:vT'=vT:=by rw [eT] at eT';injection eT' with e;exact e.symm
  obtain ⟨c0,f0⟩:=hA1.at2 (j':=50) eT rfl
  have HA1:=hid hA1
  have HRR:=hid hRR1
  have HM1:=hid hM1
  have Hlt1:=qh (n<w1.heap.size) (hA1.lt)
  have Hm1:=hid (Nat.lt_of_lt_of_le Hm.out HP1.out.size)
  obtain ⟨aT,cT,rfl⟩:=Row.shape hT
  have hj:=hid (rtjoin_any (.slice aT S.tags.length cT) (.slice a1 L.length c1) S.tags L w1 hT HR1.out (by have:=hk.n;omega) (by have:=Hok.out.n;omega))
  clear hA1 hRR1 hM1 eT' hT
  go_wp2_with fail
  refine hj.out.mono ?_
  rintro e w3 ⟨v3,rfl,hrow3,hfr3,hp3⟩
  rw [tjoin_ref hk Hok.out] at hrow3
  obtain ⟨a3,c3,rfl⟩:=Row.shape hrow3
  have HA3:=hid (HA1.out.pure hp3)
  have HRR3:=hid (HRR.out.pure hp3)
  have HM3:=hid (HM1.out.pure hp3)
  have HR3:=hid hrow3
  have HFn:=hid (fun j hj=>(show j≠n from by have:=hfr3 j hj;have:=Hlt1.out;omega))
  have HFm:=hid (fun j hj=>(show j≠m from by have:=hfr3 j hj;have:=Hm1.out;omega))
  have HP3:=hid (HP1.out.then_ hp3)
  obtain ⟨d0,g0⟩:=HA3.out.at2 (j':=50) eT rfl
  clear hrow3 hfr3 hp3 c0 f0
  go_wp2
  go_ret
  have hk:=kset w3 n 50 (.slice a3 (tjoin S.tags L).length c3)
  have HR3':=Row.kept HR3.out hk (fun j hj e=>(HFn.out j hj) e)
  exact ⟨rfl,⟨_,HA3.out.set2 48 rfl _,(HRR3.out.kept hk).setTags HR3' HFn.out,(HM3.out.kept2 HRR3.out hk).setTags HR3' HFm.out⟩,HP3.out.kept.trans hk⟩
 ·have hZ:Z=(S,10):=by rw [hA.out,if_neg hs]
  subst hZ
  obtain rfl:E=10:=by rw [hE];exact rdE_bad hs
  clear hA hs hE
  go_enter Tryz.func18,Tryz.ntmps18
  go_wp2_with fail
  rw [←hW0]
  clear hW0
  refine hi.out.mono ?_
  rintro e w1 ⟨v1,rfl,hrow1,hfr1,hr1,hk1⟩
  obtain ⟨a1,c1,rfl⟩:=Row.shape hrow1
  have H1:=hid (H0.out.next hr1 hk1)
  have HP1:=hid (kept_new H1.out.k)
  have HR1:=hid hrow1
  have HF1:=hid (fun j hj=>(show w.heap.size≤j from Nat.le_trans H0.out.k.size (hfr1 j hj)))
  clear hr1 hk1 hrow1 hfr1
  go_wp2_with fail
  refine (hend.out w1 H1.out.r).mono ?_
  rintro e w2 ⟨rfl,rfl⟩
  go_wp2
  go_ret
  exact ⟨rfl,H.out.pure HP1.out,HP1.out.kept⟩
theorem rapply_V (n m:Nat) (S:SD) (l:List UInt8) (w:World) (h:RSt2 n m S w) (hm:m<w.heap.size) (hk:VV S.view) :
 Calls Tryz.prog 18 #[.pointer (some ⟨n,0,none⟩),.string (bs (86::l))] w (RApP n m (apV S l).1 (apV S l).2 w):=by
 have Hlt:=hid h.lt
 have H:=hid h
 have Hm:=hid hm
 have hx1:(bs (86::l)).extract 0 1=⟨#[86]⟩:=by
  rw [bs_take];rfl
 have hx2:(bs (86::l)).extract 1 (l.length+1)=bs l:=by
  rw [bs_drop _ _ _ qb];rfl
 have hsz:(bs (86::l)).size=l.length+1:=by rw [bs_size];simp
 have hne:((bs (86::l)).toList=[])=False:=by rw [bs_listt];simp
 have hne2:((bs (86::l)).toList == [])=false:=by rw [bs_listt];rfl
 obtain ⟨W0,hW0⟩:=qe (w.alloc (.cells #[.string (bs l),.bool false] 98))
 have H0:=qh (RdK 98 w.heap.size (some l) w W0) (by rw [hW0];exact ⟨⟨l,false,ban _ _,rfl⟩,(Kept.refl _ _).alloc _⟩)
 have hi:=hid (rvread_any w.heap.size (some l) W0 H0.out.r)
 unfold RdRowG at hi
 have hA:=qh (apV S l=if (rdView (some l)).2=some [] then ({ S with view:=vjoin S.view (rdView (some l)).1 },0) else (S,10)) (rfl)
 have hok:=rdView_ok (some l)
 generalize apV S l=Z at *
 generalize rdView (some l)=R at *
 obtain ⟨L,s1⟩:=R
 dsimp only at hi hA hok
 have Hok:=hid hok
 have hend:=hid (fun W (hW:RdAt 98 w.heap.size s1 W)=>rend_any w.heap.size s1 W hW)
 obtain ⟨E,hE⟩:=qe (rdE s1)
 rw [←hE] at hend
 clear h hm hok
 by_cases hs:s1=some []
 ·subst hs
  obtain rfl:E=0:=hE
  have hZ:Z=({ S with view:=vjoin S.view L },0):=by rw [hA.out,if_pos rfl]
  subst hZ
  clear hA
  go_enter Tryz.func18,Tryz.ntmps18
  go_wp2_with fail
  rw [←hW0]
  clear hW0
  refine hi.out.mono ?_
  rintro e w1 ⟨v1,rfl,hrow1,hfr1,hr1,hk1⟩
  obtain ⟨a1,c1,rfl⟩:=Row.shape hrow1
  have H1:=hid (H0.out.next hr1 hk1)
  have HP1:=hid (kept_new H1.out.k)
  have HR1:=hid hrow1
  have HF1:=hid (fun j hj=>(show w.heap.size≤j from Nat.le_trans H0.out.k.size (hfr1 j hj)))
  clear hr1 hk1 hrow1 hfr1
  go_wp2_with fail
  refine (hend.out w1 H1.out.r).mono ?_
  rintro e w2 ⟨rfl,rfl⟩
  obtain ⟨r,hA1,hRR1,hM1⟩:=H.out.pure HP1.out
  obtain ⟨vT,eT,hT,hfT⟩:=hRR1.view
  obtain ⟨vT',eT',-,hfT'⟩:=hM1.view
  obtain rfl:vT'=vT:=by rw [eT] at eT';injection eT' with e;exact e.symm
  obtain ⟨c0,f0⟩:=hA1.at2 (j':=51) eT rfl
  have HA1:=hid hA1
  have HRR:=hid hRR1
  have HM1:=hid hM1
  have Hlt1:=qh (n<w1.heap.size) (hA1.lt)
  have Hm1:=hid (Nat.lt_of_lt_of_le Hm.out HP1.out.size)
  obtain ⟨aT,cT,rfl⟩:=Row.shape hT
  have hj:=hid (rvjoin_any (.slice aT S.view.length cT) (.slice a1 L.length c1) S.view L w1 hT HR1.out hk Hok.out)
  clear hA1 hRR1 hM1 eT' hT
  go_wp2_with fail
  refine hj.out.mono ?_
  rintro e w3 ⟨v3,rfl,hrow3,hfr3,hp3⟩
  obtain ⟨a3,c3,rfl⟩:=Row.shape hrow3
  have HA3:=hid (HA1.out.pure hp3)
  have HRR3:=hid (HRR.out.pure hp3)
  have HM3:=hid (HM1.out.pure hp3)
  have HR3:=hid hrow3
  have HFn:=hid (fun j hj=>(show j≠n from by rcases hfr3 j hj with h|h;exact hfT j h;have:=Hlt1.out;omega))
  have HFm:=hid (fun j hj=>(show j≠m from by rcases hfr3 j hj with h|h;exact hfT' j h;have:=Hm1.out;omega))
  have HP3:=hid (HP1.out.then_ hp3)
  obtain ⟨d0,g0⟩:=HA3.out.at2 (j':=51) eT rfl
  clear hrow3 hfr3 hp3 c0 f0
  go_wp2
  go_ret
  have hk:=kset w3 n 51 (.slice a3 (vjoin S.view L).length c3)
  have HR3':=Row.kept HR3.out hk (fun j hj e=>(HFn.out j hj) e)
  exact ⟨rfl,⟨_,HA3.out.set2 49 rfl _,(HRR3.out.kept hk).setView HR3' HFn.out,(HM3.out.kept2 HRR3.out hk).setView HR3' HFm.out⟩,HP3.out.kept.trans hk⟩
 ·have hZ:Z=(S,10):=by rw [hA.out,if_neg hs]
  subst hZ
  obtain rfl:E=10:=by rw [hE];exact rdE_bad hs
  clear hA hs hE
  go_enter Tryz.func18,Tryz.ntmps18
  go_wp2_with fail
  rw [←hW0]
  clear hW0
  refine hi.out.mono ?_
  rintro e w1 ⟨v1,rfl,hrow1,hfr1,hr1,hk1⟩
  obtain ⟨a1,c1,rfl⟩:=Row.shape hrow1
  have H1:=hid (H0.out.next hr1 hk1)
  have HP1:=hid (kept_new H1.out.k)
  have HR1:=hid hrow1
  have HF1:=hid (fun j hj=>(show w.heap.size≤j from Nat.le_trans H0.out.k.size (hfr1 j hj)))
  clear hr1 hk1 hrow1 hfr1
  go_wp2_with fail
  refine (hend.out w1 H1.out.r).mono ?_
  rintro e w2 ⟨rfl,rfl⟩
  go_wp2
  go_ret
  exact ⟨rfl,H.out.pure HP1.out,HP1.out.kept⟩
theorem rapply_H (n m:Nat) (S:SD) (l:List UInt8) (w:World) (h:RSt2 n m S w) (hm:m<w.heap.size) :
 Calls Tryz.prog 18 #[.pointer (some ⟨n,0,none⟩),.string (bs (72::l))] w (RApP n m (apH S l).1 (apH S l).2 w):=by
 have Hlt:=hid h.lt
 have H:=hid h
 have Hm:=hid hm
 have hx1:(bs (72::l)).extract 0 1=⟨#[72]⟩:=by
  rw [bs_take];rfl
 have hx2:(bs (72::l)).extract 1 (l.length+1)=bs l:=by
  rw [bs_drop _ _ _ qb];rfl
 have hsz:(bs (72::l)).size=l.length+1:=by rw [bs_size];simp
 have hne:((bs (72::l)).toList=[])=False:=by rw [bs_listt];simp
 have hne2:((bs (72::l)).toList == [])=false:=by rw [bs_listt];rfl
 obtain ⟨W0,hW0⟩:=qe (w.alloc (.cells #[.string (bs l),.bool false] 98))
 have H0:=qh (RdK 98 w.heap.size (some l) w W0) (by rw [hW0];exact ⟨⟨l,false,ban _ _,rfl⟩,(Kept.refl _ _).alloc _⟩)
 have hi:=hid (rhread_any w.heap.size (some l) W0 H0.out.r)
 unfold RdRowG at hi
 have hA:=qh (apH S l=if (rdHolds (some l)).2=some [] then ({ S with holds:=(rdHolds (some l)).1 },0) else (S,10)) (rfl)
 have hok:=rdHolds_ok (some l)
 generalize apH S l=Z at *
 generalize rdHolds (some l)=R at *
 obtain ⟨L,s1⟩:=R
 dsimp only at hi hA hok
 have Hok:=hid hok
 have hend:=hid (fun W (hW:RdAt 98 w.heap.size s1 W)=>rend_any w.heap.size s1 W hW)
 obtain ⟨E,hE⟩:=qe (rdE s1)
 rw [←hE] at hend
 clear h hm hok
 by_cases hs:s1=some []
 ·subst hs
  obtain rfl:E=0:=hE
  have hZ:Z=({ S with holds:=L },0):=by rw [hA.out,if_pos rfl]
  subst hZ
  clear hA
  go_enter Tryz.func18,Tryz.ntmps18
  go_wp2_with fail
  rw [←hW0]
  clear hW0
  refine hi.out.mono ?_
  rintro e w1 ⟨v1,rfl,hrow1,hfr1,hr1,hk1⟩
  obtain ⟨a1,c1,rfl⟩:=Row.shape hrow1
  have H1:=hid (H0.out.next hr1 hk1)
  have HP1:=hid (kept_new H1.out.k)
  have HR1:=hid hrow1
  have HF1:=hid (fun j hj=>(show w.heap.size≤j from Nat.le_trans H0.out.k.size (hfr1 j hj)))
  clear hr1 hk1 hrow1 hfr1
  go_wp2_with fail
  refine (hend.out w1 H1.out.r).mono ?_
  rintro e w2 ⟨rfl,rfl⟩
  obtain ⟨r,hA1,hRR1,hM1⟩:=H.out.pure HP1.out
  obtain ⟨vT,eT,hT,hfT⟩:=hRR1.holds
  obtain ⟨vT',eT',-,hfT'⟩:=hM1.holds
  obtain rfl:vT'=vT:=by rw [eT] at eT';injection eT' with e;exact e.symm
  obtain ⟨c0,f0⟩:=hA1.at2 (j':=52) eT rfl
  have HA1:=hid hA1
  have HRR:=hid hRR1
  have HM1:=hid hM1
  have Hlt1:=qh (n<w1.heap.size) (hA1.lt)
  have Hm1:=hid (Nat.lt_of_lt_of_le Hm.out HP1.out.size)
  have HFn:=hid (fun j hj=>(show j≠n from by have:=HF1.out j hj;have:=Hlt.out;omega))
  have HFm:=hid (fun j hj=>(show j≠m from by have:=HF1.out j hj;have:=Hm.out;omega))
  clear hA1 hRR1 hM1 eT' hT
  go_wp2
  go_ret
  have hk:=kset w1 n 52 (.slice a1 L.length c1)
  have HR3':=Row.kept HR1.out hk (fun j hj e=>(HFn.out j hj) e)
  exact ⟨rfl,⟨_,HA1.out.set2 50 rfl _,(HRR.out.kept hk).setHolds HR3' HFn.out,(HM1.out.kept2 HRR.out hk).setHolds HR3' HFm.out⟩,HP1.out.kept.trans hk⟩
 ·have hZ:Z=(S,10):=by rw [hA.out,if_neg hs]
  subst hZ
  obtain rfl:E=10:=by rw [hE];exact rdE_bad hs
  clear hA hs hE
  go_enter Tryz.func18,Tryz.ntmps18
  go_wp2_with fail
  rw [←hW0]
  clear hW0
  refine hi.out.mono ?_
  rintro e w1 ⟨v1,rfl,hrow1,hfr1,hr1,hk1⟩
  obtain ⟨a1,c1,rfl⟩:=Row.shape hrow1
  have H1:=hid (H0.out.next hr1 hk1)
  have HP1:=hid (kept_new H1.out.k)
  have HR1:=hid hrow1
  have HF1:=hid (fun j hj=>(show w.heap.size≤j from Nat.le_trans H0.out.k.size (hfr1 j hj)))
  clear hr1 hk1 hrow1 hfr1
  go_wp2_with fail
  refine (hend.out w1 H1.out.r).mono ?_
  rintro e w2 ⟨rfl,rfl⟩
  go_wp2
  go_ret
  exact ⟨rfl,H.out.pure HP1.out,HP1.out.kept⟩
end Go.Proofs.YtdlpnhfgjficgaaGreat
