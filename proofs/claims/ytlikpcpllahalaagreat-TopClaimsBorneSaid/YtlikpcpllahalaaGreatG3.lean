/- Parts of the proof. -/
import Derived.Test.YtlikpcpllahalaaGreatG2
import Derived.ArgAppend
set_option linter.unusedSimpArgs false
set_option linter.unusedVariables false
namespace Go.Proofs.YtlikpcpllahalaaGreat.V
open Go.RowKit
set_option maxRecDepth 100000
section
section
variable {P:Program} {cx:Cx} {ι:Nat→Option Nat} {box:Nat→Option Bx} {used:Nat→Prop} {w:World}
def aV (ι:Nat→Option Nat) (b g:Nat):Nat→Option Nat:=fun i=>if i=b then some g else ι i
theorem Gz (w:World) (o:Obj):Evo w (w.alloc o):=
 ⟨by simp,fun g c t h=>⟨c,by rw[Below.heap_alloc _ _ _ (Array.getElem?_eq_some_iff.1 h).1];exact h,rfl⟩⟩
theorem Oth.alloc (w:World) (o:Obj):Oth w (w.alloc o):=fun g o' h _=>by rw[Below.heap_alloc _ _ _ (Array.getElem?_eq_some_iff.1 h).1];exact h
theorem Within.alloc (h:Within cx w) (o:Obj):Within cx (w.alloc o):=
 ⟨h.os,h.tape,h.output,h.evo.trans (Gz w o),h.oth.trans (Oth.alloc w o),fun k hk hG=>by rw[Below.heap_alloc _ _ _ (Nat.lt_of_lt_of_le hk h.evo.size)];exact h.block k hk hG⟩
theorem qW (hs:HSat cx ι box used w) {b:Nat} {bx:Bx} {c:Array Value} (hu:¬used b) (hlen:bx.cs.length≤c.size)
 (hcs:∀(j:Nat) (v:Value) (y:AV),c[j]? =some v→bx.cs[j]? =some y→v.oneCell'=true∧RepA ι (Mof cx ι box) w v y):
 Step cx ι box used w (aV ι b w.heap.size) (ax box [(b,some bx)]) (fun i=>used i∨∃r,(i,r)∈[(b,some bx)]) (w.alloc (.cells c bx.t)):=by
 have hιb:ι b=none:=by
  cases h:ι b with
  |none=>rfl
  |some g=>exact absurd (hs.dom b g h).1 hu
 have hι:∀i g,ι i=some g→aV ι b w.heap.size i=some g:=fun i g h=>by
  have:i≠b:=by rintro rfl;rw[hιb] at h;cases h
  simp[aV,this,h]
 have hM:∀g,g<w.heap.size→Mof cx (aV ι b w.heap.size) (ax box [(b,some bx)]) g→Mof cx ι box g:=by
  rintro g hg (h|⟨i,x,h1,h2⟩)
  ·exact .inl h
  ·by_cases hi:i=b
   ·subst hi;simp[aV] at h2;omega
   ·simp[aV,hi] at h2;simp[ax,hi] at h1;exact .inr ⟨i,x,h1,h2⟩
 have hk:∀v y,RepA ι (Mof cx ι box) w v y→RepA (aV ι b w.heap.size) (Mof cx (aV ι b w.heap.size) (ax box [(b,some bx)])) (w.alloc (.cells c bx.t)) v y:=
  fun v y h=>h.keep hι hM (Gz w _) fun g hg _=>Below.heap_alloc _ _ _ hg
 have hub:∀i x,ax box [(b,some bx)] i=some x→used i∨∃r,(i,r)∈[(b,some bx)]:=fun i x h=>by
  by_cases hi:i=b
  ·subst hi;exact .inr ⟨some bx,by simp⟩
  ·simp[ax,hi] at h;exact .inl (hs.ub i x h)
 refine⟨⟨hs.wi.alloc _,hs.m0,fun i g h=>hι i g (hs.fix i g h),?_,hub,?_,?_⟩,hk,Oth.alloc _ _⟩
 ·intro i g hg
  by_cases hi:i=b
  ·subst hi;simp[aV] at hg;subst hg;exact⟨.inr ⟨some bx,by simp⟩,by simp⟩
  ·simp[aV,hi] at hg;exact⟨.inl (hs.dom i g hg).1,by have:=(hs.dom i g hg).2;simp;omega⟩
 ·intro i x hx
  by_cases hi:i=b
  ·subst hi
   simp[ax] at hx;subst hx
   refine .inr ⟨w.heap.size,by simp[aV],.inl hs.wi.evo.size,fun h=> ?_,c,heap_alloc_new w _,hlen,fun j v y hv hy=>⟨(hcs j v y hv hy).1,hk _ _ (hcs j v y hv hy).2⟩⟩
   have h1:=hs.m0 _ h
   have h2:=hs.wi.evo.size
   simp only[Cx.base] at h1
   omega
  ·simp[ax,hi] at hx
   rcases hs.own i x hx with⟨h1,h2⟩|⟨g,h1,h2,h3,c',h4,h5,h6⟩
   ·exact .inl ⟨h1,by simp[aV,hi,h2]⟩
   exact .inr ⟨g,hι _ _ h1,h2,h3,c',by rw[Below.heap_alloc _ _ _ (hs.dom i g h1).2];exact h4,h5,fun j v y hv hy=>⟨(h6 j v y hv hy).1,hk _ _ (h6 j v y hv hy).2⟩⟩
 ·intro i i' x x' g h1 h2 h3 h4
  by_cases hi:i=b<;>by_cases hi':i'=b
  ·rw[hi,hi']
  ·simp[aV,hi] at h3;simp[aV,hi'] at h4;have:=(hs.dom _ _ h4).2;omega
  ·simp[aV,hi'] at h4;simp[aV,hi] at h3;have:=(hs.dom _ _ h3).2;omega
  ·simp[aV,hi,hi'] at h3 h4;simp[ax,hi,hi'] at h1 h2;exact hs.inj i i' x x' g h1 h2 h3 h4
theorem GA {g:Nat} {c c':Array Value} {t:TypeId} (hh:w.heap[g]? =some (.cells c t (0,0))) (hsz:c'.size=c.size):Evo w (w.setRow g c'):=by
 refine⟨by simp,fun k x u hx=> ?_⟩
 by_cases hk:k=g
 ·subst hk
  rw[hh] at hx
  injection hx with hx
  injection hx with h1 h2
  subst h1 h2
  exact⟨c',setRow_heap w k _ c' _ _ hh,hsz⟩
 ·exact⟨x,by rw[setRow_other w g k c' hk];exact hx,rfl⟩
theorem tO (hs:HSat cx ι box used w) {b g:Nat} {bx bx':Bx} {c c':Array Value} (hb:box b=some bx) (hg:ι b=some g) (hh:w.heap[g]? =some (.cells c bx.t (0,0))) (hsz:c'.size=c.size) (hlen:bx'.cs.length≤c'.size) (ht:bx'.t=bx.t)
 (hcs:∀(j:Nat) (v:Value) (y:AV),c'[j]? =some v→bx'.cs[j]? =some y→v.oneCell'=true∧RepA ι (Mof cx ι box) w v y):
 Step cx ι box used w ι (ax box [(b,some bx')]) (fun i=>used i∨∃r,(i,r)∈[(b,some bx')]) (w.setRow g c'):=by
 have hM:∀k,Mof cx ι (ax box [(b,some bx')]) k→Mof cx ι box k:=by
  rintro k (h|⟨i,x,h1,h2⟩)
  ·exact .inl h
  ·by_cases hi:i=b
   ·subst hi;exact .inr ⟨i,bx,hb,h2⟩
   ·simp[ax,hi] at h1;exact .inr ⟨i,x,h1,h2⟩
 have hMg:Mof cx ι box g:= .inr ⟨b,bx,hb,hg⟩
 have hk:∀v y,RepA ι (Mof cx ι box) w v y→RepA ι (Mof cx ι (ax box [(b,some bx')])) (w.setRow g c') v y:=
  fun v y h=>h.keep (fun _ _ h=>h) (fun k _ h=>hM k h) (GA hh hsz) fun k _ hk=>setRow_other w g k c' fun e=>hk (e▸hMg)
 have hoth:Oth w (w.setRow g c'):=fun k o h1 h2=>by
  by_cases e:k=g
  ·subst e;rw[hh] at h1;injection h1 with h1;subst h1;cases h2
  ·rw[setRow_other w g k c' e];exact h1
 obtain⟨g',h1,h2,h3,-⟩:∃g,ι b=some g∧(cx.base≤g∨cx.G g)∧¬cx.M0 g∧tL ι (Mof cx ι box) w g bx:=by
  rcases hs.own b bx hb with⟨-,h⟩|h
  ·rw[hg] at h;cases h
  ·exact h
 rw[hg] at h1
 injection h1 with h1
 subst h1
 have hub:∀i x,ax box [(b,some bx')] i=some x→used i∨∃r,(i,r)∈[(b,some bx')]:=fun i x h=>by
  by_cases hi:i=b
  ·subst hi;exact .inr ⟨some bx',by simp⟩
  ·simp[ax,hi] at h;exact .inl (hs.ub i x h)
 refine⟨⟨⟨hs.wi.os,hs.wi.tape,hs.wi.output,hs.wi.evo.trans (GA hh hsz),hs.wi.oth.trans hoth,fun k hk hG=> ?_⟩,hs.m0,hs.fix,?_,hub,?_,?_⟩,hk,hoth⟩
 ·rw[setRow_other w g k c' (by
   rintro rfl
   rcases h2 with h2|h2
   ·omega
   ·exact hG h2)]
  exact hs.wi.block k hk hG
 ·intro i k hi
  exact⟨.inl (hs.dom i k hi).1,by have:=(hs.dom i k hi).2;simpa using this⟩
 ·intro i x hx
  by_cases hi:i=b
  ·subst hi
   simp[ax] at hx;subst hx
   exact .inr ⟨g,hg,h2,h3,c',by rw[ht];exact setRow_heap w g _ c' _ _ hh,hlen,fun j v y hv hy=>⟨(hcs j v y hv hy).1,hk _ _ (hcs j v y hv hy).2⟩⟩
  ·simp[ax,hi] at hx
   rcases hs.own i x hx with h0|⟨k,e1,e2,e3,d,e4,e5,e6⟩
   ·exact .inl h0
   have hkg:k≠g:=by rintro rfl;exact hi (hs.inj i b x bx k hx hb e1 hg)
   exact .inr ⟨k,e1,e2,e3,d,by rw[setRow_other w g k c' hkg];exact e4,e5,fun j v y hv hy=>⟨(e6 j v y hv hy).1,hk _ _ (e6 j v y hv hy).2⟩⟩
 ·intro i i' x x' k h1 h2 h3 h4
  have e:∀i x,ax box [(b,some bx')] i=some x→∃x,box i=some x:=fun i x h=>by
   by_cases hi:i=b
   ·subst hi;exact⟨bx,hb⟩
   ·simp[ax,hi] at h;exact⟨x,h⟩
  obtain⟨y,hy⟩:=e i x h1
  obtain⟨y',hy'⟩:=e i' x' h2
  exact hs.inj i i' y y' k hy hy' h3 h4
theorem yQ {o:Oper} {ρ:Operand→AV} {x:AV} {b:Nat} {bx:Bx}
 (h:∀ι M (a:Act) w,(∀y,y∈o.op.operands→RepA ι M w (a.eval y) (ρ y))→∃(v:Value) (c:Array Value),(execOp a.eval o).run P w= .ok (.value v) (w.alloc (.cells c bx.t))∧bx.cs.length≤c.size∧
   (∀(j:Nat) (v:Value) (y:AV),c[j]? =some v→bx.cs[j]? =some y→v.oneCell'=true∧RepA ι M w v y)∧∀ι' M',ι' b=some w.heap.size→RepA ι' M' (w.alloc (.cells c bx.t)) v x):Yields P cx o ρ ⟨[],x,[(b,some bx)]⟩:=by
 intro ι box used a w hs _ _ hfr hops K Q hK
 obtain⟨v,c,hrun,hlen,hcs,hv⟩:=h ι (Mof cx ι box) a w hops
 have hu:¬used b:=by
  rcases hfr b bx ai with⟨y,hy⟩|h
  ·simp at hy
  ·exact h
 unfold Oper.wp
 rw[hrun,Oper.upon_value]
 exact hK v _ _ (qW hs hu hlen hcs) (hv _ _ (by simp[aV]))
theorem Og {o:Oper} {ρ:Operand→AV} {t:TypeId} {y:Operand} {b:Nat} (ho:o.op= .box t y) (hf:(ρ y).flat=true):Yields P cx o ρ ⟨[],.ptr b 0,[(b,some ⟨t,(ρ y).cells⟩)]⟩:=by
 refine yQ fun ι M a w hops=> ?_
 obtain⟨h1,h2⟩:=(hops y (aM ho (by simp[Op.operands]))).cells hf
 refine⟨.pointer (some ⟨w.heap.size,0,none⟩),(a.eval y).cells,?_,by simp[h1],h2,fun ι' M' h=> .ptr h⟩
 simp[execOp,ho,Instr.box,newVar,newRow,newObj,Sem.run]
theorem Oh {o:Oper} {ρ:Operand→AV} {t:TypeId} {z:Value} {b:Nat} (ho:o.op= .alloc t) (hz:∀w,(zeroValue t).run P w= .ok z w) (h1:z.cells.all (·.oneCell')=true):
 Yields P cx o ρ ⟨[],.ptr b 0,[(b,some ⟨t,z.cells.toList.map .v⟩)]⟩:=by
 refine yQ fun ι M a w hops=> ?_
 refine⟨.pointer (some ⟨w.heap.size,0,none⟩),z.cells,?_,by simp,?_,fun ι' M' h=> .ptr h⟩
 ·simp[execOp,ho,Instr.alloc,hz,newVar,newRow,newObj,Sem.run]
 ·intro j v y hv hy
  simp[hv] at hy
  subst hy
  exact⟨(Array.all_eq_true_iff_forall_mem.1 h1) v (Array.mem_of_getElem? hv),.d (.v _)⟩
def splice (cs:List AV) (off:Nat) (xs:List AV):List AV:=cs.take off++xs++cs.drop (off+xs.length)
theorem Oi {o:Oper} {ρ:Operand→AV} {t:TypeId} {y u:Operand} {n b off:Nat} {bx:Bx} (ho:o.op= .store t y u) (hn:∀w,(sizeOf t).run P w= .ok n w) (hy:ρ y= .ptr b off) (hf:(ρ u).flat=true)
 (hu:(ρ u).cells.length=n) (hle:off+n≤bx.cs.length) (hn0:0<n):Yields P cx o ρ ⟨[(b,bx)],.v undef,[(b,some ⟨bx.t,splice bx.cs off (ρ u).cells⟩)]⟩:=by
 intro ι box used a w hs _ hfp _ hops K Q hK
 have hb:box b=some bx:=hfp b bx ai
 have hne:bx.cs≠ []:=by intro h;rw[h] at hle;simp at hle;omega
 obtain⟨g,hg,hgb,hgM,c,hh,hlen,hcs⟩:=hs.ne hb hne
 obtain⟨g',hg',hv⟩:∃g,ι b=some g∧a.eval y= .pointer (some ⟨g,off,none⟩):=by
  have:=hops y (aM ho (by simp[Op.operands]))
  rw[hy] at this
  exact this.ptr'
 rw[hg] at hg'
 injection hg' with hg'
 subst hg'
 obtain⟨hsz,hel⟩:=(hops u (aM ho (by simp[Op.operands]))).cells hf
 have hone:∀x,x∈(a.eval u).cells.toList→x.oneCell'=true:=by
  intro x hx
  obtain⟨i,hi⟩:=List.mem_iff_getElem?.1 hx
  have hi':(a.eval u).cells[i]? =some x:=by simpa using hi
  have hlt:i<(a.eval u).cells.size:=(Array.getElem?_eq_some_iff.1 hi').1
  exact(hel i x _ hi' (List.getElem?_eq_getElem byOmega)).1
 have hlu:(a.eval u).cells.toList.length=n:=by simp;omega
 have hrun:=run_storeCells_at (P:=P) g off bx.t (a.eval u).cells.toList 0 c w hh (by rw[hlu];omega) hone
 generalize hc':(List.take (off+0) c.toList++(a.eval u).cells.toList++List.drop (off+0+(a.eval u).cells.toList.length) c.toList).toArray=c' at hrun
 have hrun2:(execOp a.eval o).run P w= .ok .skip (w.setRow g c'):=by
  have hs1:(a.eval u).cells.size=n:=byOmega
  simp[execOp,ho,Instr.storeAt,hv,Instr.sureAddr,storeVar,hn,hs1,hrun]
 unfold Oper.wp
 rw[hrun2,Oper.upon_skip]
 refine hK undef ι _ (tO hs (bx':=⟨bx.t,splice bx.cs off (ρ u).cells⟩) hb hg hh ?_ ?_ rfl ?_) (.d (.v _))
 ·rw[←hc'];simp;omega
 ·rw[←hc'];simp[splice,hu];omega
 ·intro j v z hjv hjz
  rw[←hc'] at hjv
  simp only[splice,hu] at hjz
  simp only[Nat.add_zero,hlu,List.getElem?_toArray] at hjv
  have hto:(c.toList.take off).length=off:=by simp;omega
  have htb:(bx.cs.take off).length=off:=by simp;omega
  rw[List.append_assoc] at hjv hjz
  by_cases h1:j<off
  ·rw[List.getElem?_append_left byOmega] at hjv hjz
   rw[List.getElem?_take,if_pos h1] at hjv hjz
   exact hcs j v z (by simpa using hjv) hjz
  ·rw[List.getElem?_append_right byOmega,hto] at hjv
   rw[List.getElem?_append_right byOmega,htb] at hjz
   by_cases h2:j-off<n
   ·rw[List.getElem?_append_left byOmega] at hjv
    rw[List.getElem?_append_left byOmega] at hjz
    exact hel (j-off) v z (by simpa using hjv) hjz
   ·rw[List.getElem?_append_right byOmega,hlu,List.getElem?_drop] at hjv
    rw[List.getElem?_append_right byOmega,hu,List.getElem?_drop] at hjz
    have e:off+n+(j-off-n)=j:=byOmega
    rw[e] at hjv hjz
    exact hcs j v z (by simpa using hjv) hjz
end
end
section
section
variable {P:Program} {cx:Cx} {ι:Nat→Option Nat} {M:Nat→Prop} {w:World}
theorem RepA.sl' {v:Value} {full:Bool} {k:Nat} {l:List (List AV)} (h:RepA ι M w v (.sl full k l)):RepD M w v (.sl full k l):=by
 cases h with
 |d h=>exact h
theorem RepD.sl_val {v:Value} {full:Bool} {k:Nat} {l:List (List AV)} (h:RepD M w v (.sl full k l)):∃A cap,v= .slice A l.length cap∧l.length≤cap∧cap≤maxLen∧(full=true→cap=l.length):=by
 cases h with
 |sl b off x hn hc hm hf=>subst hn;exact⟨_,_,rfl,hc,hm,hf⟩
theorem RepA.osl' {v:Value} {b k off n:Nat} (h:RepA ι M w v (.osl b k off n)):
 (∃g cap c t,v= .slice (some ⟨g,off,none⟩) n cap∧ι b=some g∧n≤cap∧cap≤maxLen∧w.heap[g]? =some (.cells c t (0,0))∧off+cap*k=c.size)∨(n=0∧∃A,v= .slice A 0 0):=by
 cases h with
 |d h=>cases h
 |osl h1 h2 h3 h4 h5=>exact .inl ⟨_,_,_,_,rfl,h1,h2,h3,h4,h5⟩
 |osl0 A=>exact .inr ⟨rfl,A,rfl⟩
theorem Oj {o:Oper} {ρ:Operand→AV} {t e:TypeId} {y:Operand} {full:Bool} {k:Nat} {l:List (List AV)} (ho:o.op= .call {callee:= .builtin .len,args:= #[y],argTypes:= #[t]}) (ht:P.underlying t=some (.slice e)) (hy:ρ y= .sl full k l):
 Yields P cx o ρ ⟨[],int l.length,[]⟩:=by
 refine bJ fun ι M a w _ hops=> ?_
 have h1:=hops y (aM ho (by simp[Op.operands,Call.operands]))
 rw[hy] at h1
 obtain⟨A,cap,hv,-⟩:=h1.sl'.sl_val
 exact⟨.int .i64 l.length,by simp[execOp,ho,resolve,invoke,builtin,Builtin.len_,run_underlying ht,hv,goInt],.d (.v _)⟩
theorem Ol {o:Oper} {ρ:Operand→AV} {t e:TypeId} {y:Operand} {b k off n:Nat} (ho:o.op= .call {callee:= .builtin .len,args:= #[y],argTypes:= #[t]}) (ht:P.underlying t=some (.slice e)) (hy:ρ y= .osl b k off n):
 Yields P cx o ρ ⟨[],int n,[]⟩:=by
 refine bJ fun ι M a w _ hops=> ?_
 have h1:=hops y (aM ho (by simp[Op.operands,Call.operands]))
 rw[hy] at h1
 have hv:∃A cap,a.eval y= .slice A n cap:=by
  rcases h1.osl' with⟨g,cap,c,t,hv,-⟩|⟨rfl,A,hv⟩
  ·exact⟨_,_,hv⟩
  ·exact⟨_,_,hv⟩
 obtain⟨A,cap,hv⟩:=hv
 exact⟨.int .i64 n,by simp[execOp,ho,resolve,invoke,builtin,Builtin.len_,run_underlying ht,hv,goInt],.d (.v _)⟩
theorem Om {o:Oper} {ρ:Operand→AV} {t e:TypeId} {y:Operand} {A:Option Addr} {n c:Nat} (ho:o.op= .call {callee:= .builtin .len,args:= #[y],argTypes:= #[t]}) (ht:P.underlying t=some (.slice e)) (hy:ρ y= .v (.slice A n c)):
 Yields P cx o ρ ⟨[],int n,[]⟩:=by
 refine bJ fun ι M a w _ hops=> ?_
 have h1:=hops y (aM ho (by simp[Op.operands,Call.operands]))
 rw[hy] at h1
 exact⟨.int .i64 n,by simp[execOp,ho,resolve,invoke,builtin,Builtin.len_,run_underlying ht,h1.ofV,goInt],.d (.v _)⟩
theorem RepD.row {A:Option Addr} {n cap k:Nat} {full:Bool} {l:List (List AV)} {i:Nat} {row:List AV} (h:RepD M w (.slice A n cap) (.sl full k l)) (hi:l[i]? =some row):
 ∃b off,A=some ⟨b,off,none⟩∧RepA ι M w (.pointer (some ⟨b,off+i*k,none⟩)) (.pp row):=by
 cases h with
 |sl b off x hn hc hm hf hk hA hl hx=>
  have hlt:=(List.getElem?_eq_some_iff.1 hi).1
  obtain⟨h1,h2,h3⟩:=hA (by rintro rfl;simp at hi)
  have hrk:row.length=k:=hk row (List.mem_of_getElem? hi)
  exact⟨b,off,h1,.d (.pp (x i) h2 h3 (fun j hj=>hl i j hlt byOmega) fun j y hy=>hx i row j y hi hy)⟩
theorem Oo {o:Oper} {ρ:Operand→AV} {t e:TypeId} {y z:Operand} {full:Bool} {k:Nat} {l:List (List AV)} {kd:IntKind} {i:Int} {row:List AV} (ho:o.op= .indexAddr t y z) (ht:P.underlying t=some (.slice e)) (hk:∀w,(sizeOf e).run P w= .ok k w)
 (hy:ρ y= .sl full k l) (hz:ρ z= .v (.int kd i)) (h0:0≤i) (hr:l[i.toNat]? =some row):Yields P cx o ρ ⟨[],.pp row,[]⟩:=by
 refine bJ fun ι M a w _ hops=> ?_
 have h1:=hops y (aM ho (by simp[Op.operands]))
 have h2:=hops z (aM ho (by simp[Op.operands]))
 rw[hy] at h1
 rw[hz] at h2
 obtain⟨A,cap,hv,hc,hm,-⟩:=h1.sl'.sl_val
 have h3:=h1.sl'
 rw[hv] at h3
 obtain⟨b,off,rfl,hp⟩:=h3.row (ι:=ι) hr
 have hlt:=(List.getElem?_eq_some_iff.1 hr).1
 have hil:i<(l.length:Int):=byOmega
 exact⟨_,by simp[execOp,ho,Instr.indexAt,run_underlying ht,hv,h2.ofV,asIntOf,hk,h0,hil,lW],hp⟩
theorem Oq {o:Oper} {ρ:Operand→AV} {t e:TypeId} {y z:Operand} {b k off n:Nat} {kd:IntKind} {i:Int} (ho:o.op= .indexAddr t y z) (ht:P.underlying t=some (.slice e)) (hk:∀w,(sizeOf e).run P w= .ok k w)
 (hy:ρ y= .osl b k off n) (hz:ρ z= .v (.int kd i)) (h0:0≤i) (hn:i<n):Yields P cx o ρ ⟨[],.ptr b (off+i.toNat*k),[]⟩:=by
 refine bJ fun ι M a w _ hops=> ?_
 have h1:=hops y (aM ho (by simp[Op.operands]))
 have h2:=hops z (aM ho (by simp[Op.operands]))
 rw[hy] at h1
 rw[hz] at h2
 rcases h1.osl' with⟨g,cap,c,t',hv,hg,-⟩|⟨rfl,A,hv⟩
 ·exact⟨_,by simp[execOp,ho,Instr.indexAt,run_underlying ht,hv,h2.ofV,asIntOf,hk,h0,hn,lW],.ptr hg⟩
 ·omega
theorem Ot {o:Oper} {ρ:Operand→AV} {t e:TypeId} {y z:Operand} {b k off n:Nat} {kd:IntKind} {i:Int} (ho:o.op= .indexAddr t y z) (ht:P.underlying t=some (.array n e)) (hk:∀w,(sizeOf e).run P w= .ok k w)
 (hy:ρ y= .ptr b off) (hz:ρ z= .v (.int kd i)) (h0:0≤i) (hn:i<n):Yields P cx o ρ ⟨[],.ptr b (off+i.toNat*k),[]⟩:=by
 refine bJ fun ι M a w _ hops=> ?_
 have h1:=hops y (aM ho (by simp[Op.operands]))
 have h2:=hops z (aM ho (by simp[Op.operands]))
 rw[hy] at h1
 rw[hz] at h2
 obtain⟨g,hg,hv⟩:=h1.ptr'
 exact⟨_,by simp[execOp,ho,Instr.indexAt,run_underlying ht,hv,h2.ofV,asIntOf,Instr.sureAddr,hk,h0,hn,lW],.ptr hg⟩
theorem RepD.slice_piece {A:Option Addr} {n cap k lo hi m:Nat} {full f':Bool} {l:List (List AV)} (h:RepD M w (.slice A n cap) (.sl full k l)) (h1:lo≤hi) (h2:hi≤n) (h3:hi≤m) (h4:m≤cap) (hf:f'=true→m=hi):
 RepD M w (.slice (if m=lo then A else A.map (·.add (lo*k))) (hi-lo) (m-lo)) (.sl f' k ((l.take hi).drop lo)):=by
 cases h with
 |sl b off x hn hc hm hf0 hk hA hl hx=>
  have hlen:((l.take hi).drop lo).length=hi-lo:=by simp;omega
  refine .sl b (off+lo*k) (fun i j=>x (lo+i) j) hlen.symm byOmega byOmega (fun h=>by rw[hf h]) (fun row hrow=>hk row ?_) (fun hne=> ?_) (fun i j hi' hj=> ?_) (fun i row j y hr hy=> ?_)
  ·exact List.mem_of_mem_take (List.mem_of_mem_drop hrow)
  ·have hlt:lo<hi:=by
    rcases Nat.lt_or_ge lo hi with h|h
    ·exact h
    ·exact absurd (List.eq_nil_of_length_eq_zero byOmega) hne
   obtain⟨e1,e2,e3⟩:=hA (by rintro rfl;simp at hn;omega)
   rw[if_neg byOmega,e1]
   exact⟨by simp[lW],e2,e3⟩
  ·have:=hl (lo+i) j byOmega hj
   rw[Nat.add_mul,←Nat.add_assoc] at this
   exact this
  ·refine hx (lo+i) row j y ?_ hy
   rw[List.getElem?_drop,List.getElem?_take] at hr
   split at hr
   ·exact hr
   ·cases hr
theorem Cy {n cap:Nat} {lo hi mx:Option Value} {a b m:Nat} (hlo:(lo=none∧a=0)∨lo=some (.int .i64 (a:Int))) (hhi:(hi=none∧b=n∧mx=none)∨hi=some (.int .i64 (b:Int))) (hmx:(mx=none∧m=cap)∨mx=some (.int .i64 (m:Int)))
 (h1:a≤b) (h2:b≤m) (h3:m≤cap):(Instr.sliceBounds true n cap lo hi mx).run P w= .ok (a,b,m) w:=by
 have i1:((a:Int)≤(b:Int)):=byOmega
 have i2:((b:Int)≤(m:Int)):=byOmega
 have i3:((m:Int)≤(cap:Int)):=byOmega
 have p1:(0:Int)≤a:=byOmega
 have p2:(0:Int)≤b:=byOmega
 have p3:(0:Int)≤m:=byOmega
 rcases hmx with⟨rfl,rfl⟩|rfl
 ·rcases hhi with⟨rfl,rfl,-⟩|rfl<;>rcases hlo with⟨rfl,rfl⟩|rfl<;>simp[Instr.sliceBounds,Instr.sliceBound,asIntOf, *]
 ·rcases hhi with⟨-,-,h⟩|rfl
  ·cases h
  ·rcases hlo with⟨rfl,rfl⟩|rfl<;>simp[Instr.sliceBounds,Instr.sliceBound,asIntOf, *]
theorem Ou {o:Oper} {ρ:Operand→AV} {t e:TypeId} {y:Operand} {lo hi mx:Option Operand} {full f':Bool} {k a b:Nat} {l:List (List AV)} (ho:o.op= .slice t y lo hi mx) (ht:P.underlying t=some (.slice e)) (hk:∀w,(sizeOf e).run P w= .ok k w) (hy:ρ y= .sl full k l)
 (hlo:(lo=none∧a=0)∨∃z,lo=some z∧ρ z= .v (.int .i64 (a:Int))) (hhi:(hi=none∧b=l.length∧mx=none)∨∃z,hi=some z∧ρ z= .v (.int .i64 (b:Int))) (hmx:(mx=none∧f'=(full&&decide (b=l.length)))∨(f'=true∧∃z,mx=some z∧ρ z= .v (.int .i64 (b:Int))))
 (h1:a≤b) (h2:b≤l.length):Yields P cx o ρ ⟨[],.sl f' k ((l.take b).drop a),[]⟩:=by
 refine bJ fun ι M ac w _ hops=> ?_
 have g1:=hops y (aM ho (by simp[Op.operands]))
 rw[hy] at g1
 have g2:=g1.sl'
 obtain⟨A,cap,hv,hc,hm,hfull⟩:=g2.sl_val
 rw[hv] at g2
 have ev:∀z,z∈o.op.operands→∀n:Nat,ρ z= .v (.int .i64 (n:Int))→ac.eval z= .int .i64 (n:Int):=fun z hz n hn=>by
  have:=hops z hz
  rw[hn] at this
  exact this.ofV
 obtain⟨m,hm1,hm2,hm3⟩:∃m:Nat,((mx.map ac.eval=none∧m=cap)∨mx.map ac.eval=some (.int .i64 (m:Int)))∧b≤m∧m≤cap∧(f'=true→m=b):=by
  rcases hmx with⟨rfl,rfl⟩|⟨rfl,z,rfl,hz⟩
  ·refine⟨cap,.inl ⟨rfl,rfl⟩,by omega,Nat.le_refl _,fun h=> ?_⟩
   simp at h
   rw[hfull h.1,h.2]
  ·exact⟨b,.inr (by simp[ev z (aM ho (by simp[Op.operands])) b hz]),Nat.le_refl _,by omega,fun _=>rfl⟩
 have hlo':(lo.map ac.eval=none∧a=0)∨lo.map ac.eval=some (.int .i64 (a:Int)):=by
  rcases hlo with⟨rfl,rfl⟩|⟨z,rfl,hz⟩
  ·exact .inl ⟨rfl,rfl⟩
  ·exact .inr (by simp[ev z (aM ho (by simp[Op.operands])) a hz])
 have hhi':(hi.map ac.eval=none∧b=l.length∧mx.map ac.eval=none)∨hi.map ac.eval=some (.int .i64 (b:Int)):=by
  rcases hhi with⟨rfl,rfl,rfl⟩|⟨z,rfl,hz⟩
  ·exact .inl ⟨rfl,rfl,rfl⟩
  ·exact .inr (by simp[ev z (aM ho (by simp[Op.operands])) b hz])
 have hrun:=Cy (P:=P) (w:=w) hlo' hhi' hm1 h1 hm2 hm3.1
 refine⟨_,?_,.d (g2.slice_piece (lo:=a) (hi:=b) (m:=m) h1 h2 hm2 hm3.1 hm3.2)⟩
 simp[execOp,ho,Instr.sliceAt,Instr.slice,run_underlying ht,hv,hrun,hk]
theorem Ov {o:Oper} {ρ:Operand→AV} {y:Operand} {i:Nat} {l:List AV} {x:AV} (ho:o.op= .extract y i) (hy:ρ y= .tup l) (hx:l[i]? =some x):Yields P cx o ρ ⟨[],x,[]⟩:=by
 refine bJ fun ι M a w _ hops=> ?_
 have h1:=hops y (aM ho (by simp[Op.operands]))
 rw[hy] at h1
 obtain⟨vs,hv,hn,hh⟩:=h1.tup'
 have hlt:i<vs.size:=by have:=(List.getElem?_eq_some_iff.1 hx).1;omega
 refine⟨vs[i],?_,hh i _ _ (Array.getElem?_eq_getElem hlt) hx⟩
 simp[execOp,ho,Instr.extract,hv,hlt]
theorem GD {t:TypeId} {ag:Bool} {n off:Nat} {vs:Array Value} {l:List AV} {x:AV} (ha:∀w,(isAgg t).run P w= .ok ag w) (hn:∀w,(sizeOf t).run P w= .ok n w) (hs:vs.size=l.length) (hh:∀(i:Nat) (x:Value) (y:AV),vs[i]? =some x→l[i]? =some y→RepA ι M w x y)
 (hx:eD ag n off l=some x):∃v,(part t vs off).run P w= .ok v w∧RepA ι M w v x:=by
 unfold eD at hx
 cases ag with
 |false=>
  simp at hx
  have hlt:off<vs.size:=by have:=(List.getElem?_eq_some_iff.1 hx).1;omega
  exact⟨vs[off],by simp[part,ha,hlt],hh off _ _ (Array.getElem?_eq_getElem hlt) hx⟩
 |true=>
  simp only[if_true] at hx
  split at hx
  ·rename_i hle
   injection hx with hx
   subst hx
   refine⟨.agg (vs.extract off (off+n)),by simp[part,ha,hn],.agg (by simp;omega) fun i u y hu hy=> ?_⟩
   rw[List.getElem?_take] at hy
   split at hy
   ·rename_i hi
    rw[List.getElem?_drop] at hy
    rw[Array.getElem?_extract_of_lt byOmega] at hu
    exact hh (off+i) u y (by rw[←hu];exact Array.getElem?_eq_getElem _) hy
   ·cases hy
  ·cases hx
theorem Ow {o:Oper} {ρ:Operand→AV} {t:TypeId} {y:Operand} {f n:Nat} {ag:Bool} {fs:Array Field} {fd:Field} {l:List AV} {x:AV} (ho:o.op= .field t y f) (hu:P.underlying t=some (.struct fs)) (hf:fs[f]? =some fd) (ha:∀w,(isAgg fd.type).run P w= .ok ag w) (hn:∀w,(sizeOf fd.type).run P w= .ok n w)
 (hy:ρ y= .agg l) (hx:eD ag n fd.offset l=some x):Yields P cx o ρ ⟨[],x,[]⟩:=by
 refine bJ fun ι M a w _ hops=> ?_
 have h1:=hops y (aM ho (by simp[Op.operands]))
 rw[hy] at h1
 obtain⟨vs,hv,hs,hh⟩:=h1.agg'
 obtain⟨v,hr,hvx⟩:=GD (P:=P) (w:=w) ha hn hs hh hx
 exact⟨v,by simp[execOp,ho,Instr.field,run_underlying hu,hf,hv,asAgg,hr],hvx⟩
theorem Ox {o:Oper} {ρ:Operand→AV} {t e:TypeId} {y z:Operand} {n k:Nat} {ag:Bool} {l:List AV} {x:AV} {kd:IntKind} {i:Int} (ho:o.op= .index t y z) (hu:P.underlying t=some (.array n e)) (ha:∀w,(isAgg e).run P w= .ok ag w) (hn:∀w,(sizeOf e).run P w= .ok k w)
 (hy:ρ y= .agg l) (hz:ρ z= .v (.int kd i)) (h0:0≤i) (hi:i<n) (hx:eD ag k (i.toNat*k) l=some x):Yields P cx o ρ ⟨[],x,[]⟩:=by
 refine bJ fun ι M a w _ hops=> ?_
 have h1:=hops y (aM ho (by simp[Op.operands]))
 have h2:=hops z (aM ho (by simp[Op.operands]))
 rw[hy] at h1
 rw[hz] at h2
 obtain⟨vs,hv,hs,hh⟩:=h1.agg'
 obtain⟨v,hr,hvx⟩:=GD (P:=P) (w:=w) ha hn hs hh hx
 exact⟨v,by simp[execOp,ho,Instr.index,run_underlying hu,hv,h2.ofV,asIntOf,h0,hi,hn,hr],hvx⟩
def jJ (place:Nat→Option (Nat×Nat)) (cells:List AV):List (Nat×AV)→Option (List AV)
 | []=>some cells
 |(i,x)::rest=>
  match place i with
  |none=>none
  |some (off,size)=>if x.flat&&x.cells.length==size&&decide (off+size≤cells.length) then jJ place (splice cells off x.cells) rest else none
theorem GG:∀(us:List Value) (off j:Nat) (cs:Array Value),off+j+us.length≤cs.size→(us.zipIdx j).foldl (fun cs (p:Value×Nat)=>cs.setIfInBounds (off+p.2) p.1) cs=(cs.toList.take (off+j)++us++cs.toList.drop (off+j+us.length)).toArray
 | [],off,j,cs,_=>by simp
 |u::us,off,j,cs,h=>by
  rw[List.zipIdx_cons,List.foldl_cons]
  simp only
  have hh:off+j<cs.size:=by simp at h;omega
  rw[GG us off (j+1) _ (by simp at h ⊢;omega)]
  congr 1
  simp only[Array.toList_setIfInBounds]
  apply List.ext_getElem?
  intro i
  have hl1:(List.take (off+j) cs.toList).length=off+j:=by simp;omega
  have hl2:(List.take (off+(j+1)) (cs.toList.set (off+j) u)).length=off+j+1:=by simp;omega
  simp only[List.append_assoc]
  by_cases h1:i<off+j
  ·rw[List.getElem?_append_left byOmega,List.getElem?_append_left byOmega,List.getElem?_take,List.getElem?_take,if_pos byOmega,if_pos h1,List.getElem?_set_ne byOmega]
  ·by_cases h2:i=off+j
   ·subst h2
    rw[List.getElem?_append_left byOmega,List.getElem?_append_right byOmega,List.getElem?_take,if_pos byOmega,List.getElem?_set_self (by simpa using hh),hl1]
    simp
   ·rw[List.getElem?_append_right (l₁:=List.take (off+(j+1)) (cs.toList.set (off+j) u)) byOmega,List.getElem?_append_right (l₁:=List.take (off+j) cs.toList) byOmega,hl1,hl2]
    obtain⟨m,hm⟩:∃m,i-(off+j)=m+1:=⟨i-(off+j)-1,by omega⟩
    rw[hm,show i-(off+j+1)=m from by omega]
    simp only[List.cons_append,List.getElem?_cons_succ]
    by_cases h3:m<us.length
    ·rw[List.getElem?_append_left h3,List.getElem?_append_left h3]
    ·rw[List.getElem?_append_right byOmega,List.getElem?_append_right byOmega,List.getElem?_drop,List.getElem?_drop,List.getElem?_set_ne (by simp;omega)]
     congr 1
     simp
     omega
theorem yR {place:Nat→Option (Nat×Nat)} {ι:Nat→Option Nat} {M:Nat→Prop} {w:World} {ev:Operand→Value} {ρ:Operand→AV}:∀(parts:List (Nat×Operand)) (cs:Array Value) (l l':List AV),(∀p,p∈parts→RepA ι M w (ev p.2) (ρ p.2))→cs.size=l.length→
 (∀(i:Nat) (x:Value) (y:AV),cs[i]? =some x→l[i]? =some y→x.oneCell'=true∧RepA ι M w x y)→jJ place l (parts.map fun p=>(p.1,ρ p.2))=some l'→
 ∃cs',Instr.fill place cs (parts.map fun p=>(p.1,ev p.2))=some cs'∧cs'.size=l'.length∧l'.length=l.length∧∀(i:Nat) (x:Value) (y:AV),cs'[i]? =some x→l'[i]? =some y→x.oneCell'=true∧RepA ι M w x y
 | [],cs,l,l',_,hs,hc,h=>by
   simp[jJ] at h;subst h
   exact⟨cs,rfl,hs,rfl,hc⟩
 |(i,z)::parts,cs,l,l',hp,hs,hc,h=>by
  simp only[List.map_cons,jJ] at h
  cases hpl:place i with
  |none=>rw[hpl] at h;cases h
  |some os=>
   obtain⟨off,size⟩:=os
   rw[hpl] at h
   simp only at h
   split at h
   ·rename_i hcond
    simp only[Bool.and_eq_true,beq_iff_eq,decide_eq_true_eq] at hcond
    obtain⟨⟨hfl,hlen⟩,hle⟩:=hcond
    have hpz:=hp (i,z) ai
    simp only at hpz
    obtain⟨hsz,hel⟩:=hpz.cells hfl
    have hf:=GG (ev z).cells.toList off 0 cs (by simp;omega)
    have hspl:(splice l off (ρ z).cells).length=l.length:=by simp[splice];omega
    obtain⟨cs',h1,h2,h3,h4⟩:=yR parts ((cs.toList.take (off+0)++(ev z).cells.toList++cs.toList.drop (off+0+(ev z).cells.toList.length)).toArray) (splice l off (ρ z).cells) l' (fun p hpp=>hp p (by simp[hpp])) (by rw[hspl];simp;omega) (by
     intro j x y hx hy
     have hto:(cs.toList.take off).length=off:=by simp;omega
     have htb:(l.take off).length=off:=by simp;omega
     simp only[splice,List.append_assoc] at hy
     simp only[Nat.add_zero,List.getElem?_toArray,List.append_assoc] at hx
     by_cases g1:j<off
     ·rw[List.getElem?_append_left byOmega,List.getElem?_take,if_pos g1] at hx hy
      exact hc j x y (by simpa using hx) hy
     ·rw[List.getElem?_append_right byOmega,hto] at hx
      rw[List.getElem?_append_right byOmega,htb] at hy
      by_cases g2:j-off<size
      ·rw[List.getElem?_append_left (by simp;omega)] at hx
       rw[List.getElem?_append_left byOmega] at hy
       exact hel (j-off) x y (by simpa using hx) hy
      ·have e1:(ev z).cells.toList.length=size:=by simp;omega
       rw[List.getElem?_append_right byOmega,e1,List.getElem?_drop] at hx
       rw[List.getElem?_append_right byOmega,hlen,List.getElem?_drop] at hy
       have e:off+size+(j-off-size)=j:=byOmega
       rw[e] at hx hy
       exact hc j x y (by simpa using hx) hy) h
    refine⟨cs',?_,h2,by rw[h3,hspl],h4⟩
    simp only[List.map_cons,Instr.fill,hpl]
    have e1:¬((ev z).cells.size≠size∨off+(ev z).cells.size>cs.size):=byOmega
    simp only[ne_eq,Bool.or_eq_true,decide_eq_true_eq,e1,if_false]
    rw[←hf] at h1
    rw[←Array.foldl_toList,Array.toList_zipIdx]
    exact h1
   ·cases h
end
end
section
section
variable {P:Program} {cx:Cx} {ι:Nat→Option Nat} {M:Nat→Prop} {w:World}
theorem Cz {parts:Array (Nat×Operand)} {p:Nat×Operand} (h:p∈parts.toList):p.2∈((parts.toList.map (·.2)).toArray:Array Operand):=by
 simp only[List.mem_toArray,List.mem_map]
 exact⟨p,h,rfl⟩
theorem Oy {o:Oper} {ρ:Operand→AV} {t:TypeId} {parts:Array (Nat×Operand)} {fs:Array Field} {places:Array (Nat×Nat)} {z:Value} {l:List AV} (ho:o.op= .build t parts) (hu:P.underlying t=some (.struct fs)) (hz:∀w,(zeroValue t).run P w= .ok z w)
 (hpl:∀w,(fs.mapM fun f=>Prod.mk f.offset<$>sizeOf f.type:Sem (Array (Nat×Nat))).run P w= .ok places w) (h1:z.cells.all (·.oneCell')=true) (hl:jJ (fun i=>places[i]?) (z.cells.toList.map .v) (parts.toList.map fun p=>(p.1,ρ p.2))=some l):Yields P cx o ρ ⟨[],.agg l,[]⟩:=by
 refine bJ fun ι M a w _ hops=> ?_
 obtain⟨cs,h2,h3,h4,h5⟩:=yR (ι:=ι) (M:=M) (w:=w) (ev:=a.eval) (ρ:=ρ) parts.toList z.cells (z.cells.toList.map .v) l (fun p hp=>hops p.2 (aM ho (by simp only[Op.operands];exact Cz hp))) ai
  (fun i x y hx hy=>by
    simp[hx] at hy
    subst hy
    exact⟨(Array.all_eq_true_iff_forall_mem.1 h1) x (Array.mem_of_getElem? hx),.d (.v _)⟩) hl
 refine⟨.agg cs,?_,.agg h3 fun i x y hx hy=>(h5 i x y hx hy).2⟩
 simp[execOp,ho,Instr.build,hz,run_underlying hu,hpl,h2]
theorem Oz {o:Oper} {ρ:Operand→AV} {t e:TypeId} {parts:Array (Nat×Operand)} {n k:Nat} {z:Value} {l:List AV} (ho:o.op= .build t parts) (hu:P.underlying t=some (.array n e)) (hz:∀w,(zeroValue t).run P w= .ok z w)
 (hk:∀w,(sizeOf e).run P w= .ok k w) (h1:z.cells.all (·.oneCell')=true) (hl:jJ (fun i=>some (i*k,k)) (z.cells.toList.map .v) (parts.toList.map fun p=>(p.1,ρ p.2))=some l):Yields P cx o ρ ⟨[],.agg l,[]⟩:=by
 refine bJ fun ι M a w _ hops=> ?_
 obtain⟨cs,h2,h3,h4,h5⟩:=yR (ι:=ι) (M:=M) (w:=w) (ev:=a.eval) (ρ:=ρ) parts.toList z.cells (z.cells.toList.map .v) l (fun p hp=>hops p.2 (aM ho (by simp only[Op.operands];exact Cz hp))) ai
  (fun i x y hx hy=>by
    simp[hx] at hy
    subst hy
    exact⟨(Array.all_eq_true_iff_forall_mem.1 h1) x (Array.mem_of_getElem? hx),.d (.v _)⟩) hl
 refine⟨.agg cs,?_,.agg h3 fun i x y hx hy=>(h5 i x y hx hy).2⟩
 simp[execOp,ho,Instr.build,hz,run_underlying hu,hk,h2]
theorem GH (zc:Array Value) (hz:0<zc.size) (n i:Nat) (x:Value) (h:((Array.range n).map (zc[·%zc.size]!))[i]? =some x):i<n∧x=zc.getD (i%zc.size) undef∧x∈zc.toList:=by
 simp only[Array.getElem?_map,Option.map_eq_some_iff] at h
 obtain⟨j,hj,rfl⟩:=h
 have hlt:i<n:=by
  rcases Nat.lt_or_ge i n with h|h
  ·exact h
  ·rw[Array.getElem?_eq_none (by simpa using h)] at hj;cases hj
 have:j=i:=by
  rw[Array.getElem?_eq_getElem (by simpa using hlt)] at hj
  simpa using hj.symm
 subst this
 have hm:j%zc.size<zc.size:=Nat.mod_lt _ hz
 refine⟨hlt,?_,?_⟩
 ·rw[getElem!_pos zc (j%zc.size) hm,Array.getD_eq_getD_getElem?,Array.getElem?_eq_getElem hm];rfl
 ·rw[getElem!_pos zc (j%zc.size) hm];simp
theorem OA {o:Oper} {ρ:Operand→AV} {t e:TypeId} {len k b:Nat} {parts:Array (Nat×Operand)} {z:Value} {l:List AV} (ho:o.op= .buildSlice t len parts) (hu:P.underlying t=some (.slice e)) (hz:∀w,(zeroValue e).run P w= .ok z w) (hk:∀w,(sizeOf e).run P w= .ok k w)
 (hzk:z.cells.size=k) (hk0:0<k) (h1:z.cells.all (·.oneCell')=true) (hlk:len*k≤16777216) (hl:jJ (fun i=>some (i*k,k)) ((List.range (len*k)).map fun i=> .v (z.cells.getD (i%k) undef)) (parts.toList.map fun p=>(p.1,ρ p.2))=some l):
 Yields P cx o ρ ⟨[],.osl b k 0 len,[(b,some ⟨e,l⟩)]⟩:=by
 refine yQ fun ι M a w hops=> ?_
 generalize hc0:(if len*k=0 then #[] else z.cells)=zc
 have hcells:(Array.range (len*k)).map (zc[·%zc.size]!)=(Array.range (len*k)).map (z.cells[·%z.cells.size]!):=by
  by_cases h0:len*k=0
  ·simp[h0]
  ·rw[if_neg h0] at hc0;rw[hc0]
 obtain⟨cs,h2,h3,h4,h5⟩:=yR (ι:=ι) (M:=M) (w:=w) (ev:=a.eval) (ρ:=ρ) parts.toList ((Array.range (len*k)).map (z.cells[·%z.cells.size]!)) ((List.range (len*k)).map fun i=> .v (z.cells.getD (i%k) undef)) l (fun p hp=>hops p.2 (aM ho (by simp only[Op.operands];exact Cz hp))) ai
  (fun i x y hx hy=>by
    obtain⟨e1,e2,e3⟩:=GH z.cells byOmega _ _ _ hx
    rw[List.getElem?_map,List.getElem?_range e1] at hy
    simp only[Option.map_some,Option.some.injEq] at hy
    subst hy
    rw[hzk] at e2
    exact⟨(Array.all_eq_true_iff_forall_mem.1 h1) x (by simpa using e3),by rw[e2];exact .d (.v _)⟩) hl
 have h2':Instr.fill (fun i=>some (i*k,k)) ((Array.range (len*k)).map (zc[·%zc.size]!)) (parts.toList.map fun p=>(p.1,a.eval p.2))=some cs:=by rw[hcells];exact h2
 have hll:l.length=len*k:=by rw[h4];simp
 refine⟨.slice (some ⟨w.heap.size,0,none⟩) len len,cs,?_,(by show l.length≤_;omega),h5,fun ι' M' h=> .osl h (Nat.le_refl _) (by have:=Nat.le_mul_of_pos_right len hk0;simp only[maxLen];omega) (heap_alloc_new w _) (by rw[h3,hll];simp)⟩
 by_cases h0:len*k=0
 ·simp only[h0,if_true] at hc0
  subst hc0
  have hb:¬16777216<len*k:=byOmega
  have hr0:Array.range 0= #[]:=rfl
  simp only[h0,hr0,Array.map_empty] at h2'
  simp[execOp,ho,Instr.buildSlice,run_underlying hu,hk,h0,hr0,h2',newRow,newObj,Sem.run]
 ·simp only[h0,if_false] at hc0
  subst hc0
  have hb:¬16777216<len*k:=byOmega
  simp[execOp,ho,Instr.buildSlice,run_underlying hu,hk,hb,h0,hz,h2',newRow,newObj,Sem.run]
theorem OB {o:Oper} {ρ:Operand→AV} {f:Fn} {first caps:Array Operand} (ho:o.op= .makeFunc f first caps):Yields P cx o ρ ⟨[],.fn f (first.toList.map ρ) (caps.toList.map ρ),[]⟩:=by
 refine bJ fun ι M a w _ hops=>⟨.func f (first.map a.eval) (caps.map a.eval),by simp[execOp,ho,Instr.makeFunc],.fn ai ai ?_ ?_⟩
 ·intro i x y hx hy
  simp only[Array.getElem?_map,List.getElem?_map,Option.map_eq_some_iff] at hx hy
  obtain⟨p,hp,rfl⟩:=hx
  obtain⟨q,hq,rfl⟩:=hy
  have:p=q:=by simpa[hp] using hq
  subst this
  exact hops p (aM ho (by simp only[Op.operands];exact Array.mem_append.2 (.inl (Array.mem_of_getElem? hp))))
 ·intro i x y hx hy
  simp only[Array.getElem?_map,List.getElem?_map,Option.map_eq_some_iff] at hx hy
  obtain⟨p,hp,rfl⟩:=hx
  obtain⟨q,hq,rfl⟩:=hy
  have:p=q:=by simpa[hp] using hq
  subst this
  exact hops p (aM ho (by simp only[Op.operands];exact Array.mem_append.2 (.inr (Array.mem_of_getElem? hp))))
theorem OC {o:Oper} {ρ:Operand→AV} {t:TypeId} {y:Operand} (ho:o.op= .makeInterface t y) (ht:P.concrete t=true):Yields P cx o ρ ⟨[],.iface t (ρ y),[]⟩:=
 bJ fun ι M a w _ hops=>⟨.iface t (a.eval y),by simp[execOp,ho,run_makeInterface w t _ ht],.iface (hops y (aM ho (by simp[Op.operands])))⟩
inductive IsSrc:AV→List (Nat×Bx)→Nat→Nat→List AV→Prop
 |sl {f:Bool} {k m:Nat} {l:List (List AV)} (h:l.length=m):IsSrc (.sl f k l) [] k m l.flatten
 |osl {b k off m:Nat} {bx:Bx} (h:off+m*k≤bx.cs.length):IsSrc (.osl b k off m) [(b,bx)] k m ((bx.cs.drop off).take (m*k))
 |nil {k c:Nat}:IsSrc (.v (.slice none 0 c)) [] k 0 []
def OD (ι:Nat→Option Nat) (M:Nat→Prop) (w:World) (v:Value) (k m:Nat) (news:List AV):Prop:=
 ∃(A:Option Addr) (c:Nat) (us:List Value),v= .slice A m c∧us.length=m*k∧news.length=m*k∧(A=none→m=0)∧(∀ad,A=some ad→∀(j:Nat) (u:Value),us[j]? =some u→w.cell? (ad.add j)=some u)∧
  (∀(j:Nat) (u:Value) (y:AV),us[j]? =some u→news[j]? =some y→RepA ι M w u y)∧∀u,u∈us→u.oneCell'=true
theorem yS {k:Nat}:∀(l:List (List AV)),(∀r,r∈l→r.length=k)→l.flatten.length=l.length*k
 | [],_=>by simp
 |r::l,h=>by
  rw[List.flatten_cons,List.length_append,yS l fun r hr=>h r (by simp[hr]),h r ai,List.length_cons,Nat.add_mul]
  omega
theorem GI {k:Nat} (hk:0<k):∀(l:List (List AV)) (t:Nat) (y:AV),(∀r,r∈l→r.length=k)→l.flatten[t]? =some y→∃row,l[t/k]? =some row∧row[t%k]? =some y∧t/k<l.length
 | [],t,y,_,h=>by simp at h
 |r::l,t,y,hr,h=>by
  have hrk:=hr r ai
  rw[List.flatten_cons] at h
  by_cases ht:t<k
  ·rw[List.getElem?_append_left byOmega] at h
   rw[Nat.div_eq_of_lt ht,Nat.mod_eq_of_lt ht]
   exact⟨r,rfl,h,by simp⟩
  ·rw[List.getElem?_append_right byOmega,hrk] at h
   obtain⟨row,h1,h2,h3⟩:=GI hk l (t-k) y (fun r h=>hr r (by simp[h])) h
   have e1:t/k=(t-k)/k+1:=by rw[Nat.div_eq_sub_div hk byOmega]
   have e2:t%k=(t-k)%k:=by rw[Nat.mod_eq_sub_mod byOmega]
   rw[e1,e2]
   exact⟨row,by simpa using h1,h2,by simp;omega⟩
theorem IsSrc.rep {y:AV} {fp:List (Nat×Bx)} {k m:Nat} {news:List AV} {v:Value} (hs:IsSrc y fp k m news) (hk:0<k) (h:RepA ι M w v y) (hfp:∀b x,(b,x)∈fp→x.cs≠ []→∃g,ι b=some g∧tL ι M w g x):OD ι M w v k m news:=by
 cases hs with
 | @sl f _ _ l hl=>
   have h:=h.sl'
   cases h with
   | @sl A n cap _ _ _ b off x hn hc hm hf hrow hA hcell hx=>
     refine⟨A,cap,(List.range (m*k)).map fun t=>x (t/k) (t%k),by rw[hn,hl],by simp,by rw[yS l hrow,hl],?_,?_,?_,?_⟩
     ·intro hA0
      rcases l with _|⟨r,l⟩
      ·simp at hl;omega
      ·have:=(hA ai).1;rw[hA0] at this;cases this
     ·rintro ad rfl j u hu
      rw[List.getElem?_map] at hu
      have hj:j<m*k:=by
       rcases Nat.lt_or_ge j (m*k) with h|h
       ·exact h
       ·rw[List.getElem?_eq_none (by simpa using h)] at hu;simp at hu
      rw[List.getElem?_range hj] at hu
      simp at hu
      subst hu
      have hdk:j/k<m:=(Nat.div_lt_iff_lt_mul hk).2 hj
      have hne:l≠ []:=by rintro rfl;simp at hl;rw[←hl] at hdk;exact Nat.not_lt_zero _ hdk
      have hA1:=(hA hne).1
      injection hA1 with hA1
      subst hA1
      have:=(hcell (j/k) (j%k) byOmega (Nat.mod_lt _ hk)).1
      rw[lW]
      rw[Nat.add_assoc,Nat.div_add_mod' j k] at this
      exact this
     ·intro j u y hu hy
      obtain⟨row,h1,h2,h3⟩:=GI hk l j y hrow hy
      rw[List.getElem?_map] at hu
      have hj:j<m*k:=by
       rcases Nat.lt_or_ge j (m*k) with h|h
       ·exact h
       ·rw[List.getElem?_eq_none (by simpa using h)] at hu;simp at hu
      rw[List.getElem?_range hj] at hu
      simp at hu
      subst hu
      exact .d (hx _ row _ y h1 h2)
     ·intro u hu
      simp only[List.mem_map,List.mem_range] at hu
      obtain⟨j,hj,rfl⟩:=hu
      exact(hcell (j/k) (j%k) (by have:=(Nat.div_lt_iff_lt_mul hk).2 hj;omega) (Nat.mod_lt _ hk)).2
 | @osl b _ off _ bx hle=>
   rcases h.osl' with⟨g,cap,c,t,hv,hg,hn,hm,hh,hsz⟩|⟨rfl,A,hv⟩
   ·by_cases hm0:m=0
    ·subst hm0
     exact⟨_,_,[],hv,by simp,by simp,fun _=>rfl,by simp,by simp,by simp⟩
    have hmk:0<m*k:=Nat.mul_pos byOmega hk
    obtain⟨g',hg',c',hc',hlen,hcs⟩:=hfp b bx ai (by intro h;rw[h] at hle;simp at hle;omega)
    rw[hg] at hg'
    injection hg' with hg'
    subst hg'
    rw[hh] at hc'
    injection hc' with hc'
    injection hc' with e1 e2
    subst e1
    have key:∀(j:Nat) (u:Value),((c.toList.drop off).take (m*k))[j]? =some u→j<m*k∧c[off+j]? =some u:=by
     intro j u hu
     rw[List.getElem?_take] at hu
     split at hu
     ·rw[List.getElem?_drop] at hu
      exact⟨by assumption,by simpa using hu⟩
     ·cases hu
    refine⟨_,_,(c.toList.drop off).take (m*k),hv,by simp;omega,by simp;omega,by simp,?_,?_,?_⟩
    ·rintro ad had j u hu
     injection had with had
     subst had
     rw[lW,cell_of_row _ _ _ _ _ _ hh]
     exact(key j u hu).2
    ·intro j u y hu hy
     obtain⟨hj,hu⟩:=key j u hu
     rw[List.getElem?_take,if_pos hj,List.getElem?_drop] at hy
     exact(hcs _ _ _ hu hy).2
    ·intro u hu
     obtain⟨j,hj⟩:=List.mem_iff_getElem?.1 hu
     obtain⟨hj,hu⟩:=key j u hj
     exact(hcs _ _ _ hu (List.getElem?_eq_getElem byOmega)).1
   ·exact⟨A,0,[],hv,by simp,by simp,fun _=>rfl,by simp,by simp,by simp⟩
 |nil=>exact⟨none,_,[],h.ofV,by simp,by simp,fun _=>rfl,by simp,by simp,by simp⟩
theorem GJ {t ty e:TypeId} {i:TypeInfo} {z:Value} (ht:P.underlying t=some (.slice e)) (hi:P.info? e=some i) (hz:i.zero=some z) (hzs:z.cells.size=i.size)
 (B:Option Addr) (n:Nat) (olds:List Value) (hlo:olds.length=n*i.size) (hB:B=none→n=0) (holds:∀ad,B=some ad→∀(j:Nat) (u:Value),olds[j]? =some u→w.cell? (ad.add j)=some u)
 (a:Addr) (m c:Nat) (news:List Value) (hl:news.length=m*i.size) (hnews:∀(j:Nat) (u:Value),news[j]? =some u→w.cell? (a.add j)=some u) (hm:0<m) (h63:n+m≤maxLen) (hbytes:(n+m)*i.bytes≤140737488355328):
 ∃(cap:Nat) (C:Array Value),(Builtin.append_ #[t,t] ty #[.slice B n n,.slice (some a) m c]).run P w= .ok (.slice (some ⟨w.heap.size,0,none⟩) (n+m) cap) (w.drew.alloc (.cells C e))∧n+m≤cap∧cap≤maxLen∧C.size=cap*i.size∧
  ∀(j:Nat) (u:Value),(olds++news)[j]? =some u→C[j]? =some u:=by
 have hsmall:n+m≤9223372036854775807:=by simp only[maxLen] at h63;omega
 have hge:=grownCap_ge w (n+m) n e
 have hcm:grownCap w (n+m) n e≤maxLen:=grownCap_le_maxLen w (n+m) n e h63
 refine⟨grownCap w (n+m) n e,olds.toArray++news.toArray++Builtin.zeroCells z.cells (grownCap w (n+m) n e-(n+m)),?_,hge,hcm,?_,?_⟩
 ·cases B with
  |none=>
   have hn:=hB rfl
   subst hn
   have:olds=[]:=List.eq_nil_of_length_eq_zero (by simpa using hlo)
   subst this
   have hr:=run_append_nil (P:=P) w t ty e i z ht hi hz a m c news hl hnews hm byOmega (by simp only[Nat.zero_add] at hbytes;omega)
   simpa using hr
  |some b=>exact run_append_grow (P:=P) w t ty e i z ht hi hz b n n olds hlo (holds b rfl) a m c news hl hnews byOmega byOmega (growslice_fits byOmega hbytes)
 ·simp only[Array.size_append,List.size_toArray,size_zeroCells,hzs,hlo,hl,←Nat.add_mul]
  congr 1
  omega
 ·intro j u hu
  have hj:=(List.getElem?_eq_some_iff.1 hu).1
  rw[Array.getElem?_append_left (by simpa using hj)]
  simpa using hu
end
end
end Go.Proofs.YtlikpcpllahalaaGreat.V
