/- Parts of the proof. -/
import Derived.Test.YtlikpcpllahalaaGreatG30
import Derived.Test.YtlikpcpllahalaaGreatG19
set_option linter.unusedSimpArgs false
set_option linter.unusedVariables false
set_option maxHeartbeats 16000000
namespace Go.Proofs.YtlikpcpllahalaaGreat.V
open Go.RowKit
set_option maxRecDepth 100000
section
def Zip (R:Value→AV→Prop) (vs:List Value) (ys:List AV):Prop:=vs.length=ys.length∧∀(j:Nat) (v:Value) (y:AV),vs[j]? =some v→ys[j]? =some y→R v y
theorem Zip.app {R:Value→AV→Prop} {a c:List Value} {b d:List AV} (h:Zip R a b) (k:Zip R c d):Zip R (a++c) (b++d):=by
 refine⟨by simp[h.1,k.1],fun j v y hv hy=> ?_⟩
 by_cases hj:j<a.length
 ·rw[List.getElem?_append_left hj] at hv
  rw[List.getElem?_append_left (by rw[←h.1];exact hj)] at hy
  exact h.2 j v y hv hy
 ·rw[List.getElem?_append_right byOmega] at hv
  rw[List.getElem?_append_right (by rw[←h.1];omega),←h.1] at hy
  exact k.2 _ v y hv hy
theorem Zip.take {R:Value→AV→Prop} {a:List Value} {b:List AV} (h:Zip R a b) (n:Nat):Zip R (a.take n) (b.take n):=by
 refine⟨by simp[h.1],fun j v y hv hy=> ?_⟩
 rw[List.getElem?_take] at hv hy
 split at hv
 ·rw[if_pos (by assumption)] at hy;exact h.2 j v y hv hy
 ·cases hv
theorem Zip.drop {R:Value→AV→Prop} {a:List Value} {b:List AV} (h:Zip R a b) (n:Nat):Zip R (a.drop n) (b.drop n):=
 ⟨by simp[h.1],fun j v y hv hy=>h.2 _ v y (by rwa [List.getElem?_drop] at hv) (by rwa [List.getElem?_drop] at hy)⟩
section
variable {cx:Cx} {ι:Nat→Option Nat} {box:Nat→Option Bx} {used:Nat→Prop} {w:World}
theorem HSat.zip (h:HSat cx ι box used w) {b:Nat} {x:Bx} (hb:box b=some x) (hne:x.cs≠ []):∃g c,ι b=some g∧w.heap[g]? =some (.cells c x.t (0,0))∧x.cs.length≤c.size∧Zip (fun v y=>v.oneCell'=true∧RepA ι (Mof cx ι box) w v y) (c.toList.take x.cs.length) x.cs:=by
 obtain⟨g,h1,-,-,c,h4,h5,h6⟩:=h.ne hb hne
 refine⟨g,c,h1,h4,h5,by simp;omega,fun j v y hv hy=>h6 j v y ?_ hy⟩
 rw[List.getElem?_take] at hv
 split at hv
 ·rw[←Array.getElem?_toList];exact hv
 ·cases hv
end
set_option maxHeartbeats 1000000 in
theorem WT (l:List Acct) (x:Acct) (i:Nat) (hi:i<l.length) (hl:l.length≤100000):aC Tryz.prog 282 [(0,⟨133,aa Acct.flat l⟩),(2,⟨133,x.flat⟩)] [.osl 0 11 0 l.length,int i,.osl 2 11 0 1]
 (.osl 1 11 0 (l.length+1)) [(1,some ⟨133,aa Acct.flat (aZ l i x)⟩),(0,none),(2,none)]:=by
 intro M0 ι w vs hs hsz hv
 have hk:∀x:Acct,(Acct.flat x).length=11:=fun _=>rfl
 have hr:=dU hk l
 have hins:=EU hk l i x
 generalize hfp:[(0,(⟨133,aa Acct.flat l⟩:Bx)),(2,⟨133,x.flat⟩)]=fp at *
 have b0:ah (lives fp) 0=some ⟨133,aa Acct.flat l⟩:=by rw[←hfp];simp[lives,ah,ax]
 have b2:ah (lives fp) 2=some ⟨133,x.flat⟩:=by rw[←hfp];simp[lives,ah,ax]
 have u1:¬inl fp 1=true:=by rw[←hfp];simp[inl]
 obtain⟨g0,c0,i0,h0,l0,z0⟩:=hs.zip b0 (fun h=>by
  have h:aa Acct.flat l=[]:=h
  rw[h] at hr;simp at hr;omega)
 obtain⟨g2,c2,i2,h2,l2,z2⟩:=hs.zip b2 (by simp[Acct.flat])
 simp only at h0 h2 l0 l2 z0 z2
 obtain⟨v0,v1,v2,rfl⟩:∃v0 v1 v2,vs= #[v0,v1,v2]:=by
  have h2:vs.size=3:=hsz
  refine⟨vs[0],vs[1],vs[2],Array.ext (by simp[h2]) fun j h1 h3=> ?_⟩
  rcases j with _|_|_|j
  ·rfl
  ·rfl
  ·rfl
  ·omega
 have e0:=(hv 0 v0 _ rfl rfl).osl'
 have e1:=(hv 1 v1 _ rfl rfl).ofV
 have e2:=(hv 2 v2 _ rfl rfl).osl'
 clear hv
 rcases e0 with⟨g,cap,c,t,rfl,hg,hnc,hcm,hh,hcs⟩|⟨h,-⟩
 rotate_left
 ·omega
 rcases e2 with⟨g',cap',c',t',rfl,hg',hnc',hcm',hh',hcs'⟩|⟨h,-⟩
 rotate_left
 ·omega
 rw[i0] at hg;injection hg with hg;subst hg
 rw[i2] at hg';injection hg' with hg';subst hg'
 rw[h0] at hh;injection hh with hh;injection hh with q1 q2 _;subst q1 q2
 rw[h2] at hh';injection hh' with hh';injection hh' with q1 q2 _;subst q1 q2
 subst e1
 have hne:g2≠g0:=fun h=>by
  have:=hs.inj 0 2 _ _ g0 b0 b2 i0 (by rw[←h];exact i2)
  cases this
 rw[hr] at l0 z0
 have hxl:(Acct.flat x).length=11:=rfl
 rw[hxl] at l2 z2
 rw[Nat.zero_add] at hcs
 have hl0:(c0.toList.take (l.length*11)).length=l.length*11:=by simp;omega
 have hl2:(c2.toList.take 11).length=11:=by simp;omega
 have one:∀ {ys:List AV} {zs:List Value},Zip (fun v y=>v.oneCell'=true∧RepA ι (Mof (eQ M0 ι fp w 0) ι (ah (lives fp))) w v y) zs ys→∀v∈zs,v.oneCell'=true:=fun {ys zs} h v hv=>by
  obtain⟨j,hj⟩:=List.mem_iff_getElem?.1 hv
  have hjl:=(List.getElem?_eq_some_iff.1 hj).1
  exact(h.2 j v _ hj (List.getElem?_eq_getElem (by rw[←h.1];exact hjl))).1
 have cells:∀(g:Nat) (c:Array Value) (t:TypeId) (m:Nat),w.heap[g]? =some (.cells c t (0,0))→∀j v,(c.toList.take m)[j]? =some v→w.cell? ⟨g,j,none⟩=some v:=fun g c t m hg j v hj=>by
  rw[List.getElem?_take] at hj
  split at hj
  ·simp only[World.cell?,hg];rw[←Array.getElem?_toList];exact hj
  ·cases hj
 have zip3:=((z0.take (i*11)).app z2).app (z0.drop (i*11))
 rw[←hins] at zip3
 have fin:∀(rest:List Value) (j:Nat) (v:Value) (y:AV),((c0.toList.take (l.length*11)).take (i*11)++c2.toList.take 11++(c0.toList.take (l.length*11)).drop (i*11)++rest).toArray[j]? =some v→(aa Acct.flat (aZ l i x))[j]? =some y→v.oneCell'=true∧RepA ι (Mof (eQ M0 ι fp w 0) ι (ah (lives fp))) w v y:=fun rest j v y hv hy=>by
  have hj:=(List.getElem?_eq_some_iff.1 hy).1
  rw[List.getElem?_toArray,List.getElem?_append_left (by rw[zip3.1];exact hj)] at hv
  exact zip3.2 j v y hv hy
 have hlen:=zip3.1
 have hM:∀bx:Bx,ah ([(1,some bx),(0,none),(2,none)]++lives fp)=ax (ax (ax (ah (lives fp)) [(2,none)]) [(0,none)]) [(1,some bx)]:=fun bx=>by funext b;simp[ah,ax]
 by_cases hroom:cap<l.length+1
 ·refine(SQ g0 l.length cap i g2 cap' (c0.toList.take (l.length*11)) (c2.toList.take 11) w hi hnc hroom hl hl0 hl2 (cells g0 c0 _ _ h0) (cells g2 c2 _ _ h2) (one z0) (one z2)).mono ?_
  rintro e w' ⟨C,z,rfl,hC1,hC2,hC3,hh',ho,ht,hout⟩
  have s1:=qW hs (b:=1) (bx:=⟨133,aa Acct.flat (aZ l i x)⟩) (c:=((c0.toList.take (l.length*11)).take (i*11)++c2.toList.take 11++(c0.toList.take (l.length*11)).drop (i*11)++z).toArray) u1 (by rw[←hlen];simp) (fin z)
  have s2:=mG s1.h (w':=w') (by rw[hh'];rfl) ho ht hout
  have s3:=kr s2.h 2
  have s4:=kr s3.h 0
  have s:=((s1.trans s2).trans s3).trans s4
  have hQ:ah ([(1,some (⟨133,aa Acct.flat (aZ l i x)⟩:Bx)),(0,none),(2,none)]++lives fp)=ax (ax (ax (ah (lives fp)) [(1,some ⟨133,aa Acct.flat (aZ l i x)⟩)]) [(2,none)]) [(0,none)]:=by
   rw[hM];funext b;simp only[ax]
   by_cases q0:b=0
   ·subst q0;simp
   ·by_cases q1:b=1
    ·subst q1;simp
    ·simp[q0,q1]
  refine⟨_,aV ι 1 w.heap.size,rfl,fun b hb=> ?_,?_,s.oth,?_⟩
  ·have:b≠1:=by rintro rfl;exact u1 hb
   simp[aV,this]
  ·rw[hQ]
   exact s.h.used_mono fun b hb=>by
    rcases hb with hb|⟨r,hb⟩
    ·exact .inl hb
    ·refine .inr ?_;simp at hb;simp[inl,hb.1]
  ·rw[hQ]
   refine .osl (c:=((c0.toList.take (l.length*11)).take (i*11)++c2.toList.take 11++(c0.toList.take (l.length*11)).drop (i*11)++z).toArray) (t:=133) (by simp[aV]) hC1 hC2 (by rw[hh'];simp) ?_
   rw[Nat.zero_add,List.size_toArray];exact hC3.symm
 ·have hroom:l.length+1≤cap:=byOmega
  refine(SS g0 l.length cap i g2 cap' (c0.toList.take (l.length*11)) (c2.toList.take 11) c0 w hi hroom hcm hne hl0 hl2 rfl hcs.symm h0 (cells g2 c2 _ _ h2) (one z0) (one z2) c2 _ h2).mono ?_
  rintro e w' ⟨rfl,hh',ho,ht,hout⟩
  have h6:(l.length+1)*11≤cap*11:=Nat.mul_le_mul_right _ hroom
  have hsz6:((c0.toList.take (l.length*11)).take (i*11)++c2.toList.take 11++(c0.toList.take (l.length*11)).drop (i*11)++c0.toList.drop ((l.length+1)*11)).toArray.size=c0.size:=by
   have:=hlen
   rw[dU hk,oU byOmega] at this
   rw[List.size_toArray,List.length_append,this,List.length_drop]
   simp only[Array.length_toList];omega
  have s1:=tO hs (b:=0) (bx:=⟨133,aa Acct.flat l⟩) (bx':=⟨133,aa Acct.flat (aZ l i x)⟩) b0 i0 h0 hsz6 (by rw[hsz6,dU hk,oU byOmega];omega) rfl (fin _)
  have s2:=mG s1.h (w':=w') hh' ho ht hout
  have s3:=yT s2.h (b0:=0) (b:=1) (g:=g0) (bx:=⟨133,aa Acct.flat (aZ l i x)⟩) (by simp[ax]) i0 (fun h=>by
   rcases h with h|⟨r,h⟩
   ·exact u1 h
   ·simp at h)
  have s4:=kr s3.h 2
  have s:=((s1.trans s2).trans s3).trans s4
  have hQ:ah ([(1,some (⟨133,aa Acct.flat (aZ l i x)⟩:Bx)),(0,none),(2,none)]++lives fp)=ax (ax (ax (ah (lives fp)) [(0,some ⟨133,aa Acct.flat (aZ l i x)⟩)]) [(0,none),(1,some ⟨133,aa Acct.flat (aZ l i x)⟩)]) [(2,none)]:=by
   rw[hM];funext b;simp only[ax]
   by_cases q0:b=0
   ·subst q0;simp
   ·by_cases q1:b=1
    ·subst q1;simp
    ·simp[q0,q1]
  refine⟨_,aV ι 1 g0,rfl,fun b hb=> ?_,?_,s.oth,?_⟩
  ·have:b≠1:=by rintro rfl;exact u1 hb
   simp[aV,this]
  ·rw[hQ]
   exact s.h.used_mono fun b hb=>by
    rcases hb with(hb|⟨r,hb⟩)|hb
    ·exact .inl hb
    ·simp at hb;rw[hb.1];exact .inr (by simp[inl])
    ·rw[hb];exact .inr (by simp[inl])
  ·rw[hQ]
   refine .osl (c:=((c0.toList.take (l.length*11)).take (i*11)++c2.toList.take 11++(c0.toList.take (l.length*11)).drop (i*11)++c0.toList.drop ((l.length+1)*11)).toArray) (t:=133) (by simp[aV]) hroom hcm (by rw[hh'];exact setRow_heap _ _ c0 _ _ _ h0) ?_
   rw[Nat.zero_add,hsz6];exact hcs
set_option maxHeartbeats 1000000 in
theorem WU (l:List File) (x:File) (i:Nat) (hi:i<l.length) (hl:l.length≤100000):aC Tryz.prog 299 [(0,⟨95,aa File.flat l⟩),(2,⟨95,x.flat⟩)] [.osl 0 7 0 l.length,int i,.osl 2 7 0 1]
 (.osl 1 7 0 (l.length+1)) [(1,some ⟨95,aa File.flat (aZ l i x)⟩),(0,none),(2,none)]:=by
 intro M0 ι w vs hs hsz hv
 have hk:∀x:File,(File.flat x).length=7:=fun _=>rfl
 have hr:=dU hk l
 have hins:=EU hk l i x
 generalize hfp:[(0,(⟨95,aa File.flat l⟩:Bx)),(2,⟨95,x.flat⟩)]=fp at *
 have b0:ah (lives fp) 0=some ⟨95,aa File.flat l⟩:=by rw[←hfp];simp[lives,ah,ax]
 have b2:ah (lives fp) 2=some ⟨95,x.flat⟩:=by rw[←hfp];simp[lives,ah,ax]
 have u1:¬inl fp 1=true:=by rw[←hfp];simp[inl]
 obtain⟨g0,c0,i0,h0,l0,z0⟩:=hs.zip b0 (fun h=>by
  have h:aa File.flat l=[]:=h
  rw[h] at hr;simp at hr;omega)
 obtain⟨g2,c2,i2,h2,l2,z2⟩:=hs.zip b2 (by simp[File.flat])
 simp only at h0 h2 l0 l2 z0 z2
 obtain⟨v0,v1,v2,rfl⟩:∃v0 v1 v2,vs= #[v0,v1,v2]:=by
  have h2:vs.size=3:=hsz
  refine⟨vs[0],vs[1],vs[2],Array.ext (by simp[h2]) fun j h1 h3=> ?_⟩
  rcases j with _|_|_|j
  ·rfl
  ·rfl
  ·rfl
  ·omega
 have e0:=(hv 0 v0 _ rfl rfl).osl'
 have e1:=(hv 1 v1 _ rfl rfl).ofV
 have e2:=(hv 2 v2 _ rfl rfl).osl'
 clear hv
 rcases e0 with⟨g,cap,c,t,rfl,hg,hnc,hcm,hh,hcs⟩|⟨h,-⟩
 rotate_left
 ·omega
 rcases e2 with⟨g',cap',c',t',rfl,hg',hnc',hcm',hh',hcs'⟩|⟨h,-⟩
 rotate_left
 ·omega
 rw[i0] at hg;injection hg with hg;subst hg
 rw[i2] at hg';injection hg' with hg';subst hg'
 rw[h0] at hh;injection hh with hh;injection hh with q1 q2 _;subst q1 q2
 rw[h2] at hh';injection hh' with hh';injection hh' with q1 q2 _;subst q1 q2
 subst e1
 have hne:g2≠g0:=fun h=>by
  have:=hs.inj 0 2 _ _ g0 b0 b2 i0 (by rw[←h];exact i2)
  cases this
 rw[hr] at l0 z0
 have hxl:(File.flat x).length=7:=rfl
 rw[hxl] at l2 z2
 rw[Nat.zero_add] at hcs
 have hl0:(c0.toList.take (l.length*7)).length=l.length*7:=by simp;omega
 have hl2:(c2.toList.take 7).length=7:=by simp;omega
 have one:∀ {ys:List AV} {zs:List Value},Zip (fun v y=>v.oneCell'=true∧RepA ι (Mof (eQ M0 ι fp w 0) ι (ah (lives fp))) w v y) zs ys→∀v∈zs,v.oneCell'=true:=fun {ys zs} h v hv=>by
  obtain⟨j,hj⟩:=List.mem_iff_getElem?.1 hv
  have hjl:=(List.getElem?_eq_some_iff.1 hj).1
  exact(h.2 j v _ hj (List.getElem?_eq_getElem (by rw[←h.1];exact hjl))).1
 have cells:∀(g:Nat) (c:Array Value) (t:TypeId) (m:Nat),w.heap[g]? =some (.cells c t (0,0))→∀j v,(c.toList.take m)[j]? =some v→w.cell? ⟨g,j,none⟩=some v:=fun g c t m hg j v hj=>by
  rw[List.getElem?_take] at hj
  split at hj
  ·simp only[World.cell?,hg];rw[←Array.getElem?_toList];exact hj
  ·cases hj
 have zip3:=((z0.take (i*7)).app z2).app (z0.drop (i*7))
 rw[←hins] at zip3
 have fin:∀(rest:List Value) (j:Nat) (v:Value) (y:AV),((c0.toList.take (l.length*7)).take (i*7)++c2.toList.take 7++(c0.toList.take (l.length*7)).drop (i*7)++rest).toArray[j]? =some v→(aa File.flat (aZ l i x))[j]? =some y→v.oneCell'=true∧RepA ι (Mof (eQ M0 ι fp w 0) ι (ah (lives fp))) w v y:=fun rest j v y hv hy=>by
  have hj:=(List.getElem?_eq_some_iff.1 hy).1
  rw[List.getElem?_toArray,List.getElem?_append_left (by rw[zip3.1];exact hj)] at hv
  exact zip3.2 j v y hv hy
 have hlen:=zip3.1
 have hM:∀bx:Bx,ah ([(1,some bx),(0,none),(2,none)]++lives fp)=ax (ax (ax (ah (lives fp)) [(2,none)]) [(0,none)]) [(1,some bx)]:=fun bx=>by funext b;simp[ah,ax]
 by_cases hroom:cap<l.length+1
 ·refine(SV g0 l.length cap i g2 cap' (c0.toList.take (l.length*7)) (c2.toList.take 7) w hi hnc hroom hl hl0 hl2 (cells g0 c0 _ _ h0) (cells g2 c2 _ _ h2) (one z0) (one z2)).mono ?_
  rintro e w' ⟨C,z,rfl,hC1,hC2,hC3,hh',ho,ht,hout⟩
  have s1:=qW hs (b:=1) (bx:=⟨95,aa File.flat (aZ l i x)⟩) (c:=((c0.toList.take (l.length*7)).take (i*7)++c2.toList.take 7++(c0.toList.take (l.length*7)).drop (i*7)++z).toArray) u1 (by rw[←hlen];simp) (fin z)
  have s2:=mG s1.h (w':=w') (by rw[hh'];rfl) ho ht hout
  have s3:=kr s2.h 2
  have s4:=kr s3.h 0
  have s:=((s1.trans s2).trans s3).trans s4
  have hQ:ah ([(1,some (⟨95,aa File.flat (aZ l i x)⟩:Bx)),(0,none),(2,none)]++lives fp)=ax (ax (ax (ah (lives fp)) [(1,some ⟨95,aa File.flat (aZ l i x)⟩)]) [(2,none)]) [(0,none)]:=by
   rw[hM];funext b;simp only[ax]
   by_cases q0:b=0
   ·subst q0;simp
   ·by_cases q1:b=1
    ·subst q1;simp
    ·simp[q0,q1]
  refine⟨_,aV ι 1 w.heap.size,rfl,fun b hb=> ?_,?_,s.oth,?_⟩
  ·have:b≠1:=by rintro rfl;exact u1 hb
   simp[aV,this]
  ·rw[hQ]
   exact s.h.used_mono fun b hb=>by
    rcases hb with hb|⟨r,hb⟩
    ·exact .inl hb
    ·refine .inr ?_;simp at hb;simp[inl,hb.1]
  ·rw[hQ]
   refine .osl (c:=((c0.toList.take (l.length*7)).take (i*7)++c2.toList.take 7++(c0.toList.take (l.length*7)).drop (i*7)++z).toArray) (t:=95) (by simp[aV]) hC1 hC2 (by rw[hh'];simp) ?_
   rw[Nat.zero_add,List.size_toArray];exact hC3.symm
 ·have hroom:l.length+1≤cap:=byOmega
  refine(SX g0 l.length cap i g2 cap' (c0.toList.take (l.length*7)) (c2.toList.take 7) c0 w hi hroom hcm hne hl0 hl2 rfl hcs.symm h0 (cells g2 c2 _ _ h2) (one z0) (one z2) c2 _ h2).mono ?_
  rintro e w' ⟨rfl,hh',ho,ht,hout⟩
  have h6:(l.length+1)*7≤cap*7:=Nat.mul_le_mul_right _ hroom
  have hsz6:((c0.toList.take (l.length*7)).take (i*7)++c2.toList.take 7++(c0.toList.take (l.length*7)).drop (i*7)++c0.toList.drop ((l.length+1)*7)).toArray.size=c0.size:=by
   have:=hlen
   rw[dU hk,oU byOmega] at this
   rw[List.size_toArray,List.length_append,this,List.length_drop]
   simp only[Array.length_toList];omega
  have s1:=tO hs (b:=0) (bx:=⟨95,aa File.flat l⟩) (bx':=⟨95,aa File.flat (aZ l i x)⟩) b0 i0 h0 hsz6 (by rw[hsz6,dU hk,oU byOmega];omega) rfl (fin _)
  have s2:=mG s1.h (w':=w') hh' ho ht hout
  have s3:=yT s2.h (b0:=0) (b:=1) (g:=g0) (bx:=⟨95,aa File.flat (aZ l i x)⟩) (by simp[ax]) i0 (fun h=>by
   rcases h with h|⟨r,h⟩
   ·exact u1 h
   ·simp at h)
  have s4:=kr s3.h 2
  have s:=((s1.trans s2).trans s3).trans s4
  have hQ:ah ([(1,some (⟨95,aa File.flat (aZ l i x)⟩:Bx)),(0,none),(2,none)]++lives fp)=ax (ax (ax (ah (lives fp)) [(0,some ⟨95,aa File.flat (aZ l i x)⟩)]) [(0,none),(1,some ⟨95,aa File.flat (aZ l i x)⟩)]) [(2,none)]:=by
   rw[hM];funext b;simp only[ax]
   by_cases q0:b=0
   ·subst q0;simp
   ·by_cases q1:b=1
    ·subst q1;simp
    ·simp[q0,q1]
  refine⟨_,aV ι 1 g0,rfl,fun b hb=> ?_,?_,s.oth,?_⟩
  ·have:b≠1:=by rintro rfl;exact u1 hb
   simp[aV,this]
  ·rw[hQ]
   exact s.h.used_mono fun b hb=>by
    rcases hb with(hb|⟨r,hb⟩)|hb
    ·exact .inl hb
    ·simp at hb;rw[hb.1];exact .inr (by simp[inl])
    ·rw[hb];exact .inr (by simp[inl])
  ·rw[hQ]
   refine .osl (c:=((c0.toList.take (l.length*7)).take (i*7)++c2.toList.take 7++(c0.toList.take (l.length*7)).drop (i*7)++c0.toList.drop ((l.length+1)*7)).toArray) (t:=95) (by simp[aV]) hroom hcm (by rw[hh'];exact setRow_heap _ _ c0 _ _ _ h0) ?_
   rw[Nat.zero_add,hsz6];exact hcs
set_option maxHeartbeats 1000000 in
theorem WV (l:List Treaty) (x:Treaty) (i:Nat) (hi:i<l.length) (hl:l.length≤100000):aC Tryz.prog 315 [(0,⟨55,aa Treaty.flat l⟩),(2,⟨55,x.flat⟩)] [.osl 0 9 0 l.length,int i,.osl 2 9 0 1]
 (.osl 1 9 0 (l.length+1)) [(1,some ⟨55,aa Treaty.flat (aZ l i x)⟩),(0,none),(2,none)]:=by
 intro M0 ι w vs hs hsz hv
 have hk:∀x:Treaty,(Treaty.flat x).length=9:=fun _=>rfl
 have hr:=dU hk l
 have hins:=EU hk l i x
 generalize hfp:[(0,(⟨55,aa Treaty.flat l⟩:Bx)),(2,⟨55,x.flat⟩)]=fp at *
 have b0:ah (lives fp) 0=some ⟨55,aa Treaty.flat l⟩:=by rw[←hfp];simp[lives,ah,ax]
 have b2:ah (lives fp) 2=some ⟨55,x.flat⟩:=by rw[←hfp];simp[lives,ah,ax]
 have u1:¬inl fp 1=true:=by rw[←hfp];simp[inl]
 obtain⟨g0,c0,i0,h0,l0,z0⟩:=hs.zip b0 (fun h=>by
  have h:aa Treaty.flat l=[]:=h
  rw[h] at hr;simp at hr;omega)
 obtain⟨g2,c2,i2,h2,l2,z2⟩:=hs.zip b2 (by simp[Treaty.flat])
 simp only at h0 h2 l0 l2 z0 z2
 obtain⟨v0,v1,v2,rfl⟩:∃v0 v1 v2,vs= #[v0,v1,v2]:=by
  have h2:vs.size=3:=hsz
  refine⟨vs[0],vs[1],vs[2],Array.ext (by simp[h2]) fun j h1 h3=> ?_⟩
  rcases j with _|_|_|j
  ·rfl
  ·rfl
  ·rfl
  ·omega
 have e0:=(hv 0 v0 _ rfl rfl).osl'
 have e1:=(hv 1 v1 _ rfl rfl).ofV
 have e2:=(hv 2 v2 _ rfl rfl).osl'
 clear hv
 rcases e0 with⟨g,cap,c,t,rfl,hg,hnc,hcm,hh,hcs⟩|⟨h,-⟩
 rotate_left
 ·omega
 rcases e2 with⟨g',cap',c',t',rfl,hg',hnc',hcm',hh',hcs'⟩|⟨h,-⟩
 rotate_left
 ·omega
 rw[i0] at hg;injection hg with hg;subst hg
 rw[i2] at hg';injection hg' with hg';subst hg'
 rw[h0] at hh;injection hh with hh;injection hh with q1 q2 _;subst q1 q2
 rw[h2] at hh';injection hh' with hh';injection hh' with q1 q2 _;subst q1 q2
 subst e1
 have hne:g2≠g0:=fun h=>by
  have:=hs.inj 0 2 _ _ g0 b0 b2 i0 (by rw[←h];exact i2)
  cases this
 rw[hr] at l0 z0
 have hxl:(Treaty.flat x).length=9:=rfl
 rw[hxl] at l2 z2
 rw[Nat.zero_add] at hcs
 have hl0:(c0.toList.take (l.length*9)).length=l.length*9:=by simp;omega
 have hl2:(c2.toList.take 9).length=9:=by simp;omega
 have one:∀ {ys:List AV} {zs:List Value},Zip (fun v y=>v.oneCell'=true∧RepA ι (Mof (eQ M0 ι fp w 0) ι (ah (lives fp))) w v y) zs ys→∀v∈zs,v.oneCell'=true:=fun {ys zs} h v hv=>by
  obtain⟨j,hj⟩:=List.mem_iff_getElem?.1 hv
  have hjl:=(List.getElem?_eq_some_iff.1 hj).1
  exact(h.2 j v _ hj (List.getElem?_eq_getElem (by rw[←h.1];exact hjl))).1
 have cells:∀(g:Nat) (c:Array Value) (t:TypeId) (m:Nat),w.heap[g]? =some (.cells c t (0,0))→∀j v,(c.toList.take m)[j]? =some v→w.cell? ⟨g,j,none⟩=some v:=fun g c t m hg j v hj=>by
  rw[List.getElem?_take] at hj
  split at hj
  ·simp only[World.cell?,hg];rw[←Array.getElem?_toList];exact hj
  ·cases hj
 have zip3:=((z0.take (i*9)).app z2).app (z0.drop (i*9))
 rw[←hins] at zip3
 have fin:∀(rest:List Value) (j:Nat) (v:Value) (y:AV),((c0.toList.take (l.length*9)).take (i*9)++c2.toList.take 9++(c0.toList.take (l.length*9)).drop (i*9)++rest).toArray[j]? =some v→(aa Treaty.flat (aZ l i x))[j]? =some y→v.oneCell'=true∧RepA ι (Mof (eQ M0 ι fp w 0) ι (ah (lives fp))) w v y:=fun rest j v y hv hy=>by
  have hj:=(List.getElem?_eq_some_iff.1 hy).1
  rw[List.getElem?_toArray,List.getElem?_append_left (by rw[zip3.1];exact hj)] at hv
  exact zip3.2 j v y hv hy
 have hlen:=zip3.1
 have hM:∀bx:Bx,ah ([(1,some bx),(0,none),(2,none)]++lives fp)=ax (ax (ax (ah (lives fp)) [(2,none)]) [(0,none)]) [(1,some bx)]:=fun bx=>by funext b;simp[ah,ax]
 by_cases hroom:cap<l.length+1
 ·refine(SY g0 l.length cap i g2 cap' (c0.toList.take (l.length*9)) (c2.toList.take 9) w hi hnc hroom hl hl0 hl2 (cells g0 c0 _ _ h0) (cells g2 c2 _ _ h2) (one z0) (one z2)).mono ?_
  rintro e w' ⟨C,z,rfl,hC1,hC2,hC3,hh',ho,ht,hout⟩
  have s1:=qW hs (b:=1) (bx:=⟨55,aa Treaty.flat (aZ l i x)⟩) (c:=((c0.toList.take (l.length*9)).take (i*9)++c2.toList.take 9++(c0.toList.take (l.length*9)).drop (i*9)++z).toArray) u1 (by rw[←hlen];simp) (fin z)
  have s2:=mG s1.h (w':=w') (by rw[hh'];rfl) ho ht hout
  have s3:=kr s2.h 2
  have s4:=kr s3.h 0
  have s:=((s1.trans s2).trans s3).trans s4
  have hQ:ah ([(1,some (⟨55,aa Treaty.flat (aZ l i x)⟩:Bx)),(0,none),(2,none)]++lives fp)=ax (ax (ax (ah (lives fp)) [(1,some ⟨55,aa Treaty.flat (aZ l i x)⟩)]) [(2,none)]) [(0,none)]:=by
   rw[hM];funext b;simp only[ax]
   by_cases q0:b=0
   ·subst q0;simp
   ·by_cases q1:b=1
    ·subst q1;simp
    ·simp[q0,q1]
  refine⟨_,aV ι 1 w.heap.size,rfl,fun b hb=> ?_,?_,s.oth,?_⟩
  ·have:b≠1:=by rintro rfl;exact u1 hb
   simp[aV,this]
  ·rw[hQ]
   exact s.h.used_mono fun b hb=>by
    rcases hb with hb|⟨r,hb⟩
    ·exact .inl hb
    ·refine .inr ?_;simp at hb;simp[inl,hb.1]
  ·rw[hQ]
   refine .osl (c:=((c0.toList.take (l.length*9)).take (i*9)++c2.toList.take 9++(c0.toList.take (l.length*9)).drop (i*9)++z).toArray) (t:=55) (by simp[aV]) hC1 hC2 (by rw[hh'];simp) ?_
   rw[Nat.zero_add,List.size_toArray];exact hC3.symm
 ·have hroom:l.length+1≤cap:=byOmega
  refine(S9 g0 l.length cap i g2 cap' (c0.toList.take (l.length*9)) (c2.toList.take 9) c0 w hi hroom hcm hne hl0 hl2 rfl hcs.symm h0 (cells g2 c2 _ _ h2) (one z0) (one z2) c2 _ h2).mono ?_
  rintro e w' ⟨rfl,hh',ho,ht,hout⟩
  have h6:(l.length+1)*9≤cap*9:=Nat.mul_le_mul_right _ hroom
  have hsz6:((c0.toList.take (l.length*9)).take (i*9)++c2.toList.take 9++(c0.toList.take (l.length*9)).drop (i*9)++c0.toList.drop ((l.length+1)*9)).toArray.size=c0.size:=by
   have:=hlen
   rw[dU hk,oU byOmega] at this
   rw[List.size_toArray,List.length_append,this,List.length_drop]
   simp only[Array.length_toList];omega
  have s1:=tO hs (b:=0) (bx:=⟨55,aa Treaty.flat l⟩) (bx':=⟨55,aa Treaty.flat (aZ l i x)⟩) b0 i0 h0 hsz6 (by rw[hsz6,dU hk,oU byOmega];omega) rfl (fin _)
  have s2:=mG s1.h (w':=w') hh' ho ht hout
  have s3:=yT s2.h (b0:=0) (b:=1) (g:=g0) (bx:=⟨55,aa Treaty.flat (aZ l i x)⟩) (by simp[ax]) i0 (fun h=>by
   rcases h with h|⟨r,h⟩
   ·exact u1 h
   ·simp at h)
  have s4:=kr s3.h 2
  have s:=((s1.trans s2).trans s3).trans s4
  have hQ:ah ([(1,some (⟨55,aa Treaty.flat (aZ l i x)⟩:Bx)),(0,none),(2,none)]++lives fp)=ax (ax (ax (ah (lives fp)) [(0,some ⟨55,aa Treaty.flat (aZ l i x)⟩)]) [(0,none),(1,some ⟨55,aa Treaty.flat (aZ l i x)⟩)]) [(2,none)]:=by
   rw[hM];funext b;simp only[ax]
   by_cases q0:b=0
   ·subst q0;simp
   ·by_cases q1:b=1
    ·subst q1;simp
    ·simp[q0,q1]
  refine⟨_,aV ι 1 g0,rfl,fun b hb=> ?_,?_,s.oth,?_⟩
  ·have:b≠1:=by rintro rfl;exact u1 hb
   simp[aV,this]
  ·rw[hQ]
   exact s.h.used_mono fun b hb=>by
    rcases hb with(hb|⟨r,hb⟩)|hb
    ·exact .inl hb
    ·simp at hb;rw[hb.1];exact .inr (by simp[inl])
    ·rw[hb];exact .inr (by simp[inl])
  ·rw[hQ]
   refine .osl (c:=((c0.toList.take (l.length*9)).take (i*9)++c2.toList.take 9++(c0.toList.take (l.length*9)).drop (i*9)++c0.toList.drop ((l.length+1)*9)).toArray) (t:=55) (by simp[aV]) hroom hcm (by rw[hh'];exact setRow_heap _ _ c0 _ _ _ h0) ?_
   rw[Nat.zero_add,hsz6];exact hcs
end
section
attribute [local go_sem] Option.toList_some Option.toList_none Int.reduceEq Int.reduceNe
theorem vk {r:Nat→Nat}:∀(x:AV),x.isData=true→x.ren r=x
 | .v _,_=>F8 _
 | .sl ..,_=>pF ..
 | .pp _,_=>Ga _
 | .mp ..,_=>NK ..
 | .agg l,h=>by
   rw[yG,List.all_eq_true] at h
   rw[vU]
   have h1:l.map (AV.ren r)=l:=by rw[List.map_congr_left fun x hx=>vk x (h x hx)];simp
   rw[h1]
 | .tup l,h=>by
   rw[yH,List.all_eq_true] at h
   rw[vV]
   have h1:l.map (AV.ren r)=l:=by rw[List.map_congr_left fun x hx=>vk x (h x hx)];simp
   rw[h1]
 | .fn f l m,h=>by
   rw[yI,Bool.and_eq_true,List.all_eq_true,List.all_eq_true] at h
   rw[vW]
   have h1:l.map (AV.ren r)=l:=by rw[List.map_congr_left fun x hx=>vk x (h.1 x hx)];simp
   have h2:m.map (AV.ren r)=m:=by rw[List.map_congr_left fun x hx=>vk x (h.2 x hx)];simp
   rw[h1,h2]
 | .any,h=>by simp[AV.isData] at h
 | .ptr ..,h=>by simp[AV.isData] at h
 | .osl ..,h=>by simp[AV.isData] at h
 | .iface ..,h=>by simp[AV.isData] at h
 | .iff ..,h=>by simp[AV.isData] at h
 | .bit ..,h=>by simp[AV.isData] at h
theorem yo {p:Nat→Bool}:∀(x:AV),x.isData=true→x.names p=true
 | .v _,_=>Gc _
 | .sl ..,_=>Gd ..
 | .pp _,_=>Gf _
 | .mp ..,_=>NL ..
 | .agg l,h=>by
   rw[yG,List.all_eq_true] at h
   rw[vX,List.all_eq_true]
   exact fun x hx=>yo x (h x hx)
 | .tup l,h=>by
   rw[yH,List.all_eq_true] at h
   rw[qU,List.all_eq_true]
   exact fun x hx=>yo x (h x hx)
 | .fn f l m,h=>by
   rw[yI,Bool.and_eq_true,List.all_eq_true,List.all_eq_true] at h
   rw[vY,Bool.and_eq_true,List.all_eq_true,List.all_eq_true]
   exact⟨fun x hx=>yo x (h.1 x hx),fun x hx=>yo x (h.2 x hx)⟩
 | .any,h=>by simp[AV.isData] at h
 | .ptr ..,h=>by simp[AV.isData] at h
 | .osl ..,h=>by simp[AV.isData] at h
 | .iface ..,h=>by simp[AV.isData] at h
 | .iff ..,h=>by simp[AV.isData] at h
 | .bit ..,h=>by simp[AV.isData] at h
theorem su {l:List AV} (h:l.all AV.isData=true) (r:Nat→Nat):l.map (AV.ren r)=l:=by
 rw[List.all_eq_true] at h
 rw[List.map_congr_left fun x hx=>vk x (h x hx)];simp
theorem jv {l:List AV} (h:l.all AV.isData=true) (p:Nat→Bool):l.all (AV.names p)=true:=by
 rw[List.all_eq_true] at h ⊢
 exact fun x hx=>yo x (h x hx)
theorem E8 {g:FuncId} {caps:List AV} {p:Acct→Bool} (hg:∀x:Acct,Fun Tryz.prog g (.agg x.flat::caps) (bool (p x))) (hc:bn Tryz.prog g) (hd:caps.all AV.isData=true) (l:List Acct) (hl:l.length≤100000):
 Fun Tryz.prog 126 [.sl false 11 (l.map Acct.flat),.fn (.func g) [] caps] (int (dY p 0 l)):=by
 refine af Tryz.func126 fun cx hN hR hF hL=> ?_
 have hcr:=su hd
 have hcn:=jv hd
 refine' run tt (l1 ?_)
 refine aX (σ:={i:Nat // i≤l.length∧dY p 0 l=dY p i (l.drop i)}) (fun s=>⟨[(8,int s.1),(7,int l.length),(4,int 0),(1,.fn (.func g) [] caps),(0,.sl false 11 (l.map Acct.flat))],[],3000⟩) (fun s=>l.length-s.1) id ⟨0,by omega,rfl⟩ ?_ ?_
 ·simp only[go_sem,↓reduceIte,hF,hcr,hcn]
  all_goals rfl
 ·rintro⟨i,h1,h2⟩
  simp only at h1 h2 ⊢
  by_cases hi:i<l.length
  ·have e1:(l.map Acct.flat)[i]? =some l[i].flat:=by rw[List.getElem?_map,List.getElem?_eq_getElem hi];rfl
   have e2:=wS i
   have b0:((i:Int)<(l.length:Int))=True:=eT
   rw[List.drop_eq_getElem_cons hi,dY] at h2
   have hg1:=hg l[i]
   generalize l[i]=x at *
   refine' run (I b0 (I (decide_eq_true (of_eq_true b0)) (I e1 e2))) (lv (fun hq=>o4 fun K hK=> ?_) tt)
   refine bR hc hg1 (by rw[List.all_cons,hd];simp[Acct.flat]) ?_
   cases hp:p x
   ·rw[hp,if_neg ai] at h2
    (revert K;refine bK ?_;refine' run e2 (l3 fun hq=> ?_))
    refine⟨⟨i+1,hi,h2⟩,id,?_,mS⟩
    simp only[go_sem,↓reduceIte,hF,hcr,hcn]
   ·rw[hp,if_pos rfl] at h2
    (revert K;refine bK ?_;exact run e2 tt)
    all_goals(rw[h2])
  ·obtain rfl:i=l.length:=byOmega
   have b9:((l.length:Int)<(l.length:Int))=False:=eF
   rw[List.drop_length] at h2
   rw[h2]
   refine' run (I b9 (decide_eq_false (of_eq_false b9))) (l3 fun hq=> ?_)
   all_goals rfl
theorem BB {g:FuncId} {caps:List AV} {p:File→Bool} (hg:∀x:File,Fun Tryz.prog g (.agg x.flat::caps) (bool (p x))) (hc:bn Tryz.prog g) (hd:caps.all AV.isData=true) (l:List File) (hl:l.length≤100000):
 Fun Tryz.prog 195 [.sl false 7 (l.map File.flat),.fn (.func g) [] caps] (int (dY p 0 l)):=by
 refine af Tryz.func195 fun cx hN hR hF hL=> ?_
 have hcr:=su hd
 have hcn:=jv hd
 refine' run tt (l1 ?_)
 refine aX (σ:={i:Nat // i≤l.length∧dY p 0 l=dY p i (l.drop i)}) (fun s=>⟨[(8,int s.1),(7,int l.length),(4,int 0),(1,.fn (.func g) [] caps),(0,.sl false 7 (l.map File.flat))],[],3000⟩) (fun s=>l.length-s.1) id ⟨0,by omega,rfl⟩ ?_ ?_
 ·simp only[go_sem,↓reduceIte,hF,hcr,hcn]
  all_goals rfl
 ·rintro⟨i,h1,h2⟩
  simp only at h1 h2 ⊢
  by_cases hi:i<l.length
  ·have e1:(l.map File.flat)[i]? =some l[i].flat:=by rw[List.getElem?_map,List.getElem?_eq_getElem hi];rfl
   have e2:=wS i
   have b0:((i:Int)<(l.length:Int))=True:=eT
   rw[List.drop_eq_getElem_cons hi,dY] at h2
   have hg1:=hg l[i]
   generalize l[i]=x at *
   refine' run (I b0 (I (decide_eq_true (of_eq_true b0)) (I e1 e2))) (lv (fun hq=>o4 fun K hK=> ?_) tt)
   refine bR hc hg1 (by rw[List.all_cons,hd];simp[File.flat]) ?_
   cases hp:p x
   ·rw[hp,if_neg ai] at h2
    (revert K;refine bK ?_;refine' run e2 (l3 fun hq=> ?_))
    refine⟨⟨i+1,hi,h2⟩,id,?_,mS⟩
    simp only[go_sem,↓reduceIte,hF,hcr,hcn]
   ·rw[hp,if_pos rfl] at h2
    (revert K;refine bK ?_;exact run e2 tt)
    all_goals(rw[h2])
  ·obtain rfl:i=l.length:=byOmega
   have b9:((l.length:Int)<(l.length:Int))=False:=eF
   rw[List.drop_length] at h2
   rw[h2]
   refine' run (I b9 (decide_eq_false (of_eq_false b9))) (l3 fun hq=> ?_)
   all_goals rfl
theorem E9 {g:FuncId} {caps:List AV} {p:Treaty→Bool} (hg:∀x:Treaty,Fun Tryz.prog g (.agg x.flat::caps) (bool (p x))) (hc:bn Tryz.prog g) (hd:caps.all AV.isData=true) (l:List Treaty) (hl:l.length≤100000):
 Fun Tryz.prog 135 [.sl false 9 (l.map Treaty.flat),.fn (.func g) [] caps] (int (dY p 0 l)):=by
 refine af Tryz.func135 fun cx hN hR hF hL=> ?_
 have hcr:=su hd
 have hcn:=jv hd
 refine' run tt (l1 ?_)
 refine aX (σ:={i:Nat // i≤l.length∧dY p 0 l=dY p i (l.drop i)}) (fun s=>⟨[(8,int s.1),(7,int l.length),(4,int 0),(1,.fn (.func g) [] caps),(0,.sl false 9 (l.map Treaty.flat))],[],3000⟩) (fun s=>l.length-s.1) id ⟨0,by omega,rfl⟩ ?_ ?_
 ·simp only[go_sem,↓reduceIte,hF,hcr,hcn]
  all_goals rfl
 ·rintro⟨i,h1,h2⟩
  simp only at h1 h2 ⊢
  by_cases hi:i<l.length
  ·have e1:(l.map Treaty.flat)[i]? =some l[i].flat:=by rw[List.getElem?_map,List.getElem?_eq_getElem hi];rfl
   have e2:=wS i
   have b0:((i:Int)<(l.length:Int))=True:=eT
   rw[List.drop_eq_getElem_cons hi,dY] at h2
   have hg1:=hg l[i]
   generalize l[i]=x at *
   refine' run (I b0 (I (decide_eq_true (of_eq_true b0)) (I e1 e2))) (lv (fun hq=>o4 fun K hK=> ?_) tt)
   refine bR hc hg1 (by rw[List.all_cons,hd];simp[Treaty.flat]) ?_
   cases hp:p x
   ·rw[hp,if_neg ai] at h2
    (revert K;refine bK ?_;refine' run e2 (l3 fun hq=> ?_))
    refine⟨⟨i+1,hi,h2⟩,id,?_,mS⟩
    simp only[go_sem,↓reduceIte,hF,hcr,hcn]
   ·rw[hp,if_pos rfl] at h2
    (revert K;refine bK ?_;exact run e2 tt)
    all_goals(rw[h2])
  ·obtain rfl:i=l.length:=byOmega
   have b9:((l.length:Int)<(l.length:Int))=False:=eF
   rw[List.drop_length] at h2
   rw[h2]
   refine' run (I b9 (decide_eq_false (of_eq_false b9))) (l3 fun hq=> ?_)
   all_goals rfl
end
end Go.Proofs.YtlikpcpllahalaaGreat.V
