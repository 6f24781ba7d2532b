/- Parts of the proof. -/
import Derived.Test.YtlikpcpllahalaaGreatG3
set_option linter.unusedSimpArgs false
set_option linter.unusedVariables false
namespace Go.Proofs.YtlikpcpllahalaaGreat.V
open Go.RowKit
section
variable {P:Program} {cx:Cx} {ι:Nat→Option Nat} {box:Nat→Option Bx} {used:Nat→Prop} {w:World}
theorem Step.trans {ι1 ι2:Nat→Option Nat} {box1 box2:Nat→Option Bx} {u1 u2:Nat→Prop} {w1 w2:World} (h:Step cx ι box used w ι1 box1 u1 w1) (k:Step cx ι1 box1 u1 w1 ι2 box2 u2 w2):Step cx ι box used w ι2 box2 u2 w2:=
 ⟨k.h,fun v y hv=>k.keep _ _ (h.keep _ _ hv),h.oth.trans k.oth⟩
theorem Step.umono {ι1:Nat→Option Nat} {box1:Nat→Option Bx} {u1 u2:Nat→Prop} {w1:World} (h:Step cx ι box used w ι1 box1 u1 w1) (hu:∀b,u1 b→u2 b):Step cx ι box used w ι1 box1 u2 w1:=⟨h.h.used_mono hu,h.keep,h.oth⟩
theorem mG (hs:HSat cx ι box used w) {w':World} (h1:w'.heap=w.heap) (h2:w'.os=w.os) (h3:w'.tape=w.tape) (h4:w'.output=w.output):Step cx ι box used w ι box used w':=by
 have hev:Evo w w':=⟨by rw[h1];exact Nat.le_refl _,fun g c t h=>⟨c,by rw[h1];exact h,rfl⟩⟩
 have hk:∀v y,RepA ι (Mof cx ι box) w v y→RepA ι (Mof cx ι box) w' v y:=fun v y h=>RepA.keep (w:=w) (w':=w') (fun _ _ h=>h) (fun _ _ h=>h) hev (fun g _ _=>by rw[h1]) h
 refine⟨⟨⟨h2.trans hs.wi.os,h3.trans hs.wi.tape,h4.trans hs.wi.output,hs.wi.evo.trans hev,fun g o e1 e2=>by rw[h1];exact hs.wi.oth g o e1 e2,fun k hk hG=>by rw[h1];exact hs.wi.block k hk hG⟩,hs.m0,hs.fix,fun b g hb=>by rw[h1];exact hs.dom b g hb,hs.ub,?_,hs.inj⟩,hk,fun g o h _=>by rw[h1];exact h⟩
 intro b x hb
 rcases hs.own b x hb with h|⟨g,e1,e2,e3,c,e4,e5,e6⟩
 ·exact .inl h
 ·exact .inr ⟨g,e1,e2,e3,c,by rw[h1];exact e4,e5,fun j v y hv hy=>⟨(e6 j v y hv hy).1,hk _ _ (e6 j v y hv hy).2⟩⟩
theorem GK {D:Nat} {o':Obj} {p:Addr} {v:Value} (ho:∀o,w.heap[D]? =some o→iC o=false) (h:w.cell? p=some v):(w.putObj D o').cell? p=some v:=by
 by_cases e:p.block=D
 ·exfalso
  unfold World.cell? at h
  rw[e] at h
  cases hd:w.heap[D]? with
  |none=>rw[hd] at h;simp at h
  |some o=>
   have:=ho o hd
   rw[hd] at h
   cases o<;>simp[iC] at this<;>simp at h
 ·rw[World.cell?_of_block (World.putObj_heap_other e)];exact h
theorem RepD.obj {M:Nat→Prop} {D:Nat} {o':Obj} (ho:∀o,w.heap[D]? =some o→iC o=false) {v:Value} {a:AV} (h:RepD M w v a):RepD M (w.putObj D o') v a:=by
 induction h with
 |v x=>exact .v x
 |sl b off x hn hc hm hf hk hA hl hx ih=>exact .sl b off x hn hc hm hf hk (fun h=>⟨(hA h).1,(hA h).2.1,by simpa using(hA h).2.2⟩) (fun i j hi hj=>⟨GK ho (hl i j hi hj).1,(hl i j hi hj).2⟩) ih
 |agg hn _ ih=>exact .agg hn ih
 |tup hn _ ih=>exact .tup hn ih
 | @mp r c es hM hr=>exact .mp hM (by by_cases e:r=D
                                      ·subst e;have:=ho _ hr;simp[iC] at this
                                      ·rw[World.putObj_heap_other e];exact hr)
 |pp x hM hg hl hx ih=>exact .pp x hM (by simpa using hg) (fun j hj=>⟨GK ho (hl j hj).1,(hl j hj).2⟩) ih
 |fn hf hc _ _ ih1 ih2=>exact .fn hf hc ih1 ih2
theorem CB {D g:Nat} {o':Obj} {c:Array Value} {t:TypeId} (ho:∀o,w.heap[D]? =some o→iC o=false) (h:w.heap[g]? =some (.cells c t (0,0))):(w.putObj D o').heap[g]? =some (.cells c t (0,0)):=by
 by_cases e:g=D
 ·subst e;have:=ho _ h;simp[iC] at this
 ·rw[World.putObj_heap_other e];exact h
theorem RepA.obj {M:Nat→Prop} {D:Nat} {o':Obj} (ho:∀o,w.heap[D]? =some o→iC o=false) {v:Value} {a:AV} (h:RepA ι M w v a):RepA ι M (w.putObj D o') v a:=by
 induction h with
 |d h=>exact .d (h.obj ho)
 |any v=>exact .any v
 |ptr h=>exact .ptr h
 |osl h hn hm hh hs=>exact .osl h hn hm (CB ho hh) hs
 |osl0 A b k o=>exact .osl0 A b k o
 |fn hf hc _ _ ih1 ih2=>exact .fn hf hc ih1 ih2
 |agg hn _ ih=>exact .agg hn ih
 |tup hn _ ih=>exact .tup hn ih
 |iface _ ih=>exact .iface ih
 |iffT _ ih=>exact .iffT ih
 |iffF a=>exact .iffF a
 |bit h=>exact .bit h
theorem GL (hs:HSat cx ι box used w) {D:Nat} {o':Obj} (hD:cx.base≤D) (ho:∀o,w.heap[D]? =some o→iC o=false):HSat cx ι box used (w.putObj D o'):=by
 refine⟨⟨hs.wi.os,hs.wi.tape,hs.wi.output,hs.wi.evo.trans ⟨by simp,fun g c t h=>⟨c,CB ho h,rfl⟩⟩,fun g o e1 e2=>by have:=(Array.getElem?_eq_some_iff.1 e1).1;simp only[Cx.base] at hD;rw[World.putObj_heap_other byOmega];exact hs.wi.oth g o e1 e2,fun k hk hG=> ?_⟩,hs.m0,hs.fix,fun b g hb=>by simpa using hs.dom b g hb,hs.ub,?_,hs.inj⟩
 ·rw[World.putObj_heap_other byOmega];exact hs.wi.block k hk hG
 ·intro b x hb
  rcases hs.own b x hb with h|⟨g,e1,e2,e3,c,e4,e5,e6⟩
  ·exact .inl h
  ·exact .inr ⟨g,e1,e2,e3,c,CB ho e4,e5,fun j v y hv hy=>⟨(e6 j v y hv hy).1,(e6 j v y hv hy).2.obj ho⟩⟩
theorem kr (hs:HSat cx ι box used w) (b0:Nat):Step cx ι box used w ι (ax box [(b0,none)]) used w:=by
 have hb:∀b x,ax box [(b0,none)] b=some x→box b=some x:=fun b x h=>by
  by_cases hi:b=b0
  ·subst hi;simp[ax] at h
  ·simpa[ax,hi] using h
 have hk:∀v y,RepA ι (Mof cx ι box) w v y→RepA ι (Mof cx ι (ax box [(b0,none)])) w v y:=fun v y h=>h.less fun _=>Mof.mono hb
 refine⟨⟨hs.wi,hs.m0,hs.fix,hs.dom,fun b x h=>hs.ub b x (hb b x h),fun b x h=> ?_,fun b b' x x' g h1 h2=>hs.inj b b' x x' g (hb b x h1) (hb b' x' h2)⟩,hk,Oth.refl _⟩
 rcases hs.own b x (hb b x h) with h|⟨g,e1,e2,e3,c,e4,e5,e6⟩
 ·exact .inl h
 ·exact .inr ⟨g,e1,e2,e3,c,e4,e5,fun j v y hv hy=>⟨(e6 j v y hv hy).1,hk _ _ (e6 j v y hv hy).2⟩⟩
theorem yT (hs:HSat cx ι box used w) {b0 b g:Nat} {bx:Bx} (hb0:box b0=some bx) (hg:ι b0=some g) (hu:¬used b):
 Step cx ι box used w (aV ι b g) (ax box [(b0,none),(b,some bx)]) (fun i=>used i∨i=b) w:=by
 have hιb:ι b=none:=by
  cases h:ι b with
  |none=>rfl
  |some g=>exact absurd (hs.dom b g h).1 hu
 have hbb:b≠b0:=by rintro rfl;exact hu (hs.ub b bx hb0)
 have hι:∀i g',ι i=some g'→aV ι b g i=some g':=fun i g' h=>by
  have:i≠b:=by rintro rfl;rw[hιb] at h;cases h
  simp[aV,this,h]
 have cases3:∀i x,ax box [(b0,none),(b,some bx)] i=some x→(i=b∧x=bx)∨(i≠b∧i≠b0∧box i=some x):=fun i x h=>by
  by_cases h0:i=b0
  ·subst h0;simp[ax] at h
  ·by_cases h1:i=b
   ·subst h1;simp[ax,h0] at h;exact .inl ⟨rfl,h.symm⟩
   ·simp[ax,h0,h1] at h;exact .inr ⟨h1,h0,h⟩
 have hM:∀k,Mof cx (aV ι b g) (ax box [(b0,none),(b,some bx)]) k→Mof cx ι box k:=by
  rintro k (h|⟨i,x,h1,h2⟩)
  ·exact .inl h
  ·rcases cases3 i x h1 with⟨rfl,rfl⟩|⟨h3,h4,h5⟩
   ·simp[aV] at h2;subst h2;exact .inr ⟨b0,x,hb0,hg⟩
   ·simp[aV,h3] at h2;exact .inr ⟨i,x,h5,h2⟩
 have hk:∀v y,RepA ι (Mof cx ι box) w v y→RepA (aV ι b g) (Mof cx (aV ι b g) (ax box [(b0,none),(b,some bx)])) w v y:=
  fun v y h=>h.keep hι (fun k _ h=>hM k h) (Evo.refl w) fun _ _ _=>rfl
 refine⟨⟨hs.wi,hs.m0,fun i k h=>hι i k (hs.fix i k h),?_,?_,?_,?_⟩,hk,Oth.refl _⟩
 ·intro i k hi
  by_cases h1:i=b
  ·subst h1;simp[aV] at hi;subst hi;exact⟨.inr rfl,(hs.dom b0 _ hg).2⟩
  ·simp[aV,h1] at hi;exact⟨.inl (hs.dom i k hi).1,(hs.dom i k hi).2⟩
 ·intro i x hi
  rcases cases3 i x hi with⟨rfl,-⟩|⟨-,-,h⟩
  ·exact .inr rfl
  ·exact .inl (hs.ub i x h)
 ·intro i x hi
  rcases cases3 i x hi with⟨rfl,rfl⟩|⟨h3,h4,h5⟩
  ·rcases hs.own b0 x hb0 with⟨-,h⟩|⟨g',e1,e2,e3,c,e4,e5,e6⟩
   ·rw[hg] at h;cases h
   ·rw[hg] at e1;injection e1 with e1;subst e1
    exact .inr ⟨g,by simp[aV],e2,e3,c,e4,e5,fun j v y hv hy=>⟨(e6 j v y hv hy).1,hk _ _ (e6 j v y hv hy).2⟩⟩
  ·rcases hs.own i x h5 with⟨h6,h7⟩|⟨g',e1,e2,e3,c,e4,e5,e6⟩
   ·exact .inl ⟨h6,by simp[aV,h3,h7]⟩
   ·exact .inr ⟨g',hι _ _ e1,e2,e3,c,e4,e5,fun j v y hv hy=>⟨(e6 j v y hv hy).1,hk _ _ (e6 j v y hv hy).2⟩⟩
 ·intro i i' x x' k h1 h2 h3 h4
  rcases cases3 i x h1 with⟨rfl,rfl⟩|⟨g1,g2,g3⟩<;>rcases cases3 i' x' h2 with⟨rfl,rfl⟩|⟨f1,f2,f3⟩
  ·rfl
  ·simp[aV] at h3;simp[aV,f1] at h4;subst h3;exact absurd (hs.inj i' b0 x' x _ f3 hb0 h4 hg) f2
  ·simp[aV] at h4;simp[aV,g1] at h3;subst h4;exact absurd (hs.inj i b0 x x' _ g3 hb0 h3 hg) g2
  ·simp[aV,g1] at h3;simp[aV,f1] at h4;exact hs.inj i i' x x' k g3 f3 h3 h4
theorem CE (hs:HSat cx ι box used w) {b:Nat} {t:TypeId} (hu:¬used b):Step cx ι box used w ι (ax box [(b,some ⟨t,[]⟩)]) (fun i=>used i∨i=b) w:=by
 have hιb:ι b=none:=by
  cases h:ι b with
  |none=>rfl
  |some g=>exact absurd (hs.dom b g h).1 hu
 have cases2:∀i x,ax box [(b,some ⟨t,[]⟩)] i=some x→(i=b∧x=⟨t,[]⟩)∨(i≠b∧box i=some x):=fun i x h=>by
  by_cases h1:i=b
  ·subst h1;simp[ax] at h;exact .inl ⟨rfl,h.symm⟩
  ·simp[ax,h1] at h;exact .inr ⟨h1,h⟩
 have hM:∀k,Mof cx ι (ax box [(b,some ⟨t,[]⟩)]) k→Mof cx ι box k:=by
  rintro k (h|⟨i,x,h1,h2⟩)
  ·exact .inl h
  ·rcases cases2 i x h1 with⟨rfl,-⟩|⟨-,h5⟩
   ·rw[hιb] at h2;cases h2
   ·exact .inr ⟨i,x,h5,h2⟩
 have hk:∀v y,RepA ι (Mof cx ι box) w v y→RepA ι (Mof cx ι (ax box [(b,some ⟨t,[]⟩)])) w v y:=fun v y h=>h.less hM
 refine⟨⟨hs.wi,hs.m0,hs.fix,fun i k hi=>⟨.inl (hs.dom i k hi).1,(hs.dom i k hi).2⟩,?_,?_,?_⟩,hk,Oth.refl _⟩
 ·intro i x hi
  rcases cases2 i x hi with⟨rfl,-⟩|⟨-,h⟩
  ·exact .inr rfl
  ·exact .inl (hs.ub i x h)
 ·intro i x hi
  rcases cases2 i x hi with⟨rfl,rfl⟩|⟨-,h5⟩
  ·exact .inl ⟨rfl,hιb⟩
  ·rcases hs.own i x h5 with h|⟨g',e1,e2,e3,c,e4,e5,e6⟩
   ·exact .inl h
   ·exact .inr ⟨g',e1,e2,e3,c,e4,e5,fun j v y hv hy=>⟨(e6 j v y hv hy).1,hk _ _ (e6 j v y hv hy).2⟩⟩
 ·intro i i' x x' k h1 h2 h3 h4
  rcases cases2 i x h1 with⟨rfl,rfl⟩|⟨g1,g3⟩
  ·rw[hιb] at h3;cases h3
  ·rcases cases2 i' x' h2 with⟨rfl,rfl⟩|⟨f1,f3⟩
   ·rw[hιb] at h4;cases h4
   ·exact hs.inj i i' x x' k g3 f3 h3 h4
theorem wz (l m:List (Nat×Option Bx)):ax (ax box l) m=ax box (m++l):=by
 funext i
 induction m with
 |nil=>rfl
 |cons p m ih=>simp only[ax,List.cons_append];split<;>simp_all
theorem OE {o:Oper} {ρ:Operand→AV} {t e:TypeId} {s x:Operand} {b0 b k n m by':Nat} {z:Value} {bx:Bx} {fpx:List (Nat×Bx)} {news:List AV} (ho:o.op= .call {callee:= .builtin .append,args:= #[s,x],argTypes:= #[t,t]}) (ht:P.underlying t=some (.slice e))
 (hi:(P.info? e).map (fun i=>(i.zero,i.size,i.bytes))=some (some z,k,by')) (hzs:z.cells.size=k) (hk:0<k) (hs:ρ s= .osl b0 k 0 n) (hcs:bx.cs.length=n*k) (hbt:bx.t=e) (hx:IsSrc (ρ x) fpx k m news) (hb:b≠b0) (hbx:∀y,(b,y)∉fpx)
 (h63:n+m≤maxLen) (hby:(n+m)*by'≤140737488355328):Yields P cx o ρ ⟨(b0,bx)::fpx,.osl b k 0 (n+m),[(b0,none),(b,some ⟨e,bx.cs++news⟩)]⟩:=by
 obtain⟨i0,hi0,hz0,hz1,hz2⟩:=info_parts hi
 subst hbt
 intro ι box used a w hh hdef hfp hfr hops K Q hK
 have hb0:box b0=some bx:=hfp b0 bx ai
 have hu:¬used b:=by
  rcases hfr b ⟨bx.t,bx.cs++news⟩ ai with⟨y,hy⟩|h
  ·simp only[List.mem_cons,Prod.mk.injEq] at hy
   rcases hy with⟨h,-⟩|hy
   ·exact absurd h hb
   ·exact absurd hy (hbx y)
  ·exact h
 have hvs:=hops s (aM ho (by simp[Op.operands,Call.operands]))
 have hvx:=hops x (aM ho (by simp[Op.operands,Call.operands]))
 rw[hs] at hvs
 obtain⟨A,c,us,hxv,hul,hnl,hA0,hucell,hurep,huone⟩:=hx.rep hk hvx fun b x hb hne=>by
  obtain⟨g,h1,-,-,h4⟩:=hh.ne (hfp b x (List.mem_cons_of_mem _ hb)) hne
  exact⟨g,h1,h4⟩
 have hlen2:(bx.cs++news).length=(n+m)*k:=by rw[List.length_append,hcs,hnl,Nat.add_mul]
 have fin:∀(v':Value) (w':World),(Builtin.append_ #[t,t] o.type #[a.eval s,a.eval x]).run P w= .ok v' w'→(∀ι',Step cx ι box used w ι' (ax box [(b0,none),(b,some ⟨bx.t,bx.cs++news⟩)]) (fun i=>used i∨i=b) w'→RepA ι' (Mof cx ι' (ax box [(b0,none),(b,some ⟨bx.t,bx.cs++news⟩)])) w' v' (.osl b k 0 (n+m))→o.wp P a w K Q):=by
  intro v' w' hrun ι' hst hv
  unfold Oper.wp execOp
  simp only[ho,resolve,invoke,builtin,Sem.run_bind,Sem.run_pure,Result.andThen_ok,List.map_toArray,List.map_cons,List.map_nil,hrun]
  refine hK v' ι' w' (hst.umono ?_) hv
  rintro i (h|rfl)
  ·exact .inl h
  ·exact .inr ⟨some ⟨bx.t,bx.cs++news⟩,by simp⟩
 have grow:∀(B:Option Addr) (cap:Nat) (C:Array Value),(Builtin.append_ #[t,t] o.type #[a.eval s,a.eval x]).run P w= .ok (.slice (some ⟨w.heap.size,0,none⟩) (n+m) cap) (w.drew.alloc (.cells C bx.t))→n+m≤cap→cap≤maxLen→C.size=cap*k→
  (∀(j:Nat) (v:Value) (y:AV),C[j]? =some v→(bx.cs++news)[j]? =some y→v.oneCell'=true∧RepA ι (Mof cx ι box) w v y)→o.wp P a w K Q:=by
  intro B cap C hrun h1 h2 h3 h4
  have s1:Step cx ι box used w ι box used w.drew:=mG hh rfl rfl rfl rfl
  have s2:=qW s1.h (b:=b) (bx:=⟨bx.t,bx.cs++news⟩) (c:=C) hu (by show(bx.cs++news).length≤_;rw[hlen2,h3];exact Nat.mul_le_mul_right _ h1) fun j v y hv hy=>⟨(h4 j v y hv hy).1,s1.keep _ _ (h4 j v y hv hy).2⟩
  have s3:=kr s2.h b0
  have s4:=(s1.trans s2).trans s3
  rw[wz] at s4
  refine fin _ _ hrun _ (s4.umono ?_) (.osl (g:=w.heap.size) ?_ h1 h2 (heap_alloc_new w.drew _) (by rw[h3];simp))
  ·rintro i (h|⟨r,h⟩)
   ·exact .inl h
   ·simp at h;exact .inr h.1
  ·simp[aV]
 rcases hvs.osl' with⟨g,cap,cur,ty,hsv,hg,hnc,hcm,hheap,hsz⟩|⟨rfl,B,hsv⟩
 ·obtain⟨g',hg',hgb,hgM,cur',hcur,hcl,hcc⟩:∃g,ι b0=some g∧(cx.base≤g∨cx.G g)∧¬cx.M0 g∧tL ι (Mof cx ι box) w g bx:=by
   rcases hh.own b0 bx hb0 with⟨-,h⟩|h
   ·rw[hg] at h;cases h
   ·exact h
  rw[hg] at hg'
  injection hg' with hg'
  subst hg'
  rw[hheap] at hcur
  injection hcur with hcur
  injection hcur with e1 e2
  subst e1 e2
  simp only[Nat.zero_add] at hsz
  have hold:∀(j:Nat) (v:Value) (y:AV),(cur.toList.take (n*k))[j]? =some v→bx.cs[j]? =some y→v.oneCell'=true∧RepA ι (Mof cx ι box) w v y:=fun j v y hv hy=>by
   rw[List.getElem?_take] at hv
   split at hv
   ·exact hcc j v y (by simpa using hv) hy
   ·cases hv
  have hnk:n*k≤cur.size:=by rw[←hsz];exact Nat.mul_le_mul_right _ hnc
  have hboth:∀(l:List Value),l=cur.toList.take (n*k)++us→∀(j:Nat) (v:Value) (y:AV),l[j]? =some v→(bx.cs++news)[j]? =some y→v.oneCell'=true∧RepA ι (Mof cx ι box) w v y:=by
   rintro l rfl j v y hv hy
   have ht0:(cur.toList.take (n*k)).length=n*k:=by simp;omega
   by_cases hj:j<n*k
   ·rw[List.getElem?_append_left byOmega] at hv hy
    exact hold j v y hv hy
   ·rw[List.getElem?_append_right byOmega,ht0] at hv
    rw[List.getElem?_append_right byOmega,hcs] at hy
    exact⟨huone v (List.mem_of_getElem? hv),hurep _ _ _ hv hy⟩
  by_cases hroom:n+m≤cap
  ·have hfit:n*k+us.length≤cur.size:=by rw[hul,←hsz,←Nat.add_mul];exact Nat.mul_le_mul_right _ hroom
   have hrun:∃C:Array Value,(Builtin.append_ #[t,t] o.type #[a.eval s,a.eval x]).run P w= .ok (.slice (some ⟨g,0,none⟩) (n+m) cap) (w.setRow g C)∧C.size=cur.size∧∀(j:Nat) (v:Value),C[j]? =some v→j<(n+m)*k→(cur.toList.take (n*k)++us)[j]? =some v:=by
    cases A with
    |none=>
     have hm0:=hA0 rfl
     subst hm0
     have hnil:us=[]:=List.eq_nil_of_length_eq_zero (by simpa using hul)
     subst hnil
     refine⟨cur,?_,rfl,fun j v hv hj=> ?_⟩
     ·rw[hsv,hxv,setRow_self w g cur _ _ hheap]
      simp[Builtin.append_,run_underlying ht,sizeOf,typeInfo,hi0,Builtin.lenOf,Builtin.firstCells,hnc,storeCells]
     ·rw[List.append_nil,List.getElem?_take,if_pos (by simpa using hj)];simpa using hv
    |some ad=>
     subst hz1
     have hr:=run_append_room (P:=P) w t o.type bx.t i0 ht hi0 g n cap cur hheap ad m c us hul (hucell ad rfl) huone hroom hfit
     refine⟨_,by rw[hsv,hxv];exact hr,by simp;omega,fun j v hv hj=> ?_⟩
     simp only[List.getElem?_toArray] at hv
     rw[List.getElem?_append_left (by simp;rw[hul,Nat.min_eq_left hnk,←Nat.add_mul];exact hj)] at hv
     exact hv
   obtain⟨C,hrun,hC,hCc⟩:=hrun
   have s1:=tO hh (bx':=⟨bx.t,bx.cs++news⟩) hb0 hg hheap hC (by show(bx.cs++news).length≤_;rw[hlen2,hC,←hsz];exact Nat.mul_le_mul_right _ hroom) rfl (by
    intro j v y hv hy
    have hj:j<(n+m)*k:=by rw[←hlen2];exact(List.getElem?_eq_some_iff.1 hy).1
    exact hboth _ rfl j v y (hCc j v hv hj) hy)
   have hu1:¬(used b∨∃r,(b,r)∈[(b0,some (⟨bx.t,bx.cs++news⟩:Bx))]):=by
    rintro(h|⟨r,h⟩)
    ·exact hu h
    ·simp at h;exact hb h.1
   have s2:=yT s1.h (b0:=b0) (b:=b) (g:=g) (bx:=⟨bx.t,bx.cs++news⟩) (by simp[ax]) hg hu1
   have s3:=s1.trans s2
   have hbe:ax (ax box [(b0,some ⟨bx.t,bx.cs++news⟩)]) [(b0,none),(b,some ⟨bx.t,bx.cs++news⟩)]=ax box [(b0,none),(b,some ⟨bx.t,bx.cs++news⟩)]:=by
    funext i
    simp only[ax]
    by_cases h0:i=b0
    ·simp[h0]
    ·by_cases h1:i=b<;>simp[h0,h1]
   rw[hbe] at s3
   refine fin _ _ hrun _ (s3.umono ?_) (.osl (g:=g) (by simp[aV]) hroom hcm (setRow_heap w g cur C _ _ hheap) (by rw[hC];omega))
   rintro i ((h|⟨r,h⟩)|h)
   ·exact .inl h
   ·simp at h;rw[h.1];exact .inl (hh.ub b0 bx hb0)
   ·exact .inr h
  ·cases A with
   |none=>have:=hA0 rfl;omega
   |some ad=>
    subst hz1
    have hlo:(cur.toList.take (n*i0.size)).length=n*i0.size:=by simp;omega
    have hr:=run_append_grow (P:=P) w t o.type bx.t i0 z ht hi0 hz0 ⟨g,0,none⟩ n cap (cur.toList.take (n*i0.size)) hlo (fun j u hj=>by
     rw[lW,Nat.zero_add,cell_of_row _ _ _ _ _ _ hheap]
     rw[List.getElem?_take] at hj
     split at hj
     ·simpa using hj
     ·cases hj) ad m c us hul (hucell ad rfl) byOmega (by simp only[maxLen] at h63;omega) (growslice_fits byOmega (by rw[hz2];exact hby))
    have hge:=grownCap_ge w (n+m) cap bx.t
    have hcmx:grownCap w (n+m) cap bx.t≤maxLen:=grownCap_le_maxLen w (n+m) cap bx.t h63
    refine grow none _ _ (by rw[hsv,hxv];exact hr) hge hcmx ?_ ?_
    ·simp only[Array.size_append,List.size_toArray,size_zeroCells,hzs,hlo,hul,←Nat.add_mul]
     congr 1
     omega
    ·intro j v y hv hy
     have hj:j<(n+m)*i0.size:=by rw[←hlen2];exact(List.getElem?_eq_some_iff.1 hy).1
     rw[Array.getElem?_append_left (by simp only[Array.size_append,List.size_toArray,hlo,hul,←Nat.add_mul];exact hj)] at hv
     exact hboth _ rfl j v y (by simpa using hv) hy
 ·have hcs0:bx.cs=[]:=List.eq_nil_of_length_eq_zero (by simpa using hcs)
  cases A with
  |none=>
   have hm0:=hA0 rfl
   subst hm0
   have hnil:news=[]:=List.eq_nil_of_length_eq_zero (by simpa using hnl)
   subst hnil
   have s1:=CE hh (b:=b) (t:=bx.t) hu
   have s2:=s1.trans (kr s1.h b0)
   rw[wz] at s2
   refine fin (.slice B 0 0) w ?_ ι ?_ (.osl0 B b k 0)
   ·rw[hsv,hxv]
    cases B<;>simp[Builtin.append_,run_underlying ht,sizeOf,typeInfo,hi0,Builtin.lenOf,Builtin.firstCells,storeCells]
   ·rw[hcs0];exact s2
  |some ad=>
   by_cases hm0:m=0
   ·subst hm0
    have hnil:news=[]:=List.eq_nil_of_length_eq_zero (by simpa using hnl)
    subst hnil
    have s1:=CE hh (b:=b) (t:=bx.t) hu
    have s2:=s1.trans (kr s1.h b0)
    rw[wz] at s2
    refine fin (.slice B 0 0) w ?_ ι ?_ (.osl0 B b k 0)
    ·rw[hsv,hxv]
     cases B<;>simp[Builtin.append_,run_underlying ht,sizeOf,typeInfo,hi0,Builtin.lenOf,Builtin.firstCells,storeCells,loadCells,loadCellsFrom]
    ·rw[hcs0];exact s2
   ·subst hz1
    obtain⟨cap,C,hr,h1,h2,h3,h4⟩:=GJ (P:=P) (w:=w) (ty:=o.type) ht hi0 hz0 hzs B 0 [] ai (fun _=>rfl) ai ad m c us hul (hucell ad rfl) byOmega h63 (by rw[hz2];exact hby)
    refine grow none cap C (by rw[hsv,hxv];exact hr) h1 h2 h3 fun j v y hv hy=> ?_
    rw[hcs0,List.nil_append] at hy
    have hjl:j<us.length:=by rw[hul,←hnl];exact(List.getElem?_eq_some_iff.1 hy).1
    have hju:=h4 j us[j] (by rw[List.nil_append];exact List.getElem?_eq_getElem hjl)
    rw[hv] at hju
    injection hju with hju
    subst hju
    exact⟨huone _ (List.getElem_mem hjl),hurep j _ y (List.getElem?_eq_getElem hjl) hy⟩
theorem GM {ι:Nat→Option Nat} {M:Nat→Prop} {w:World} {v:Value} {f:Bool} {k:Nat} (h:RepA ι M w v (.v (.slice none 0 0))):RepA ι M w v (.sl f k []):=by
 rw[h.ofV]
 exact .d (.sl (b:=0) (off:=0) (x:=fun _ _=>undef) rfl (Nat.le_refl _) (Nat.zero_le _) (fun _=>rfl) ai ai ai ai)
theorem GN {o:Oper} {ρ:Operand→AV} {t e:TypeId} {s x:Operand} {b k n m by':Nat} {z:Value} {l:List (List AV)} {fpx:List (Nat×Bx)} {news:List AV} (ho:o.op= .call {callee:= .builtin .append,args:= #[s,x],argTypes:= #[t,t]}) (ht:P.underlying t=some (.slice e))
 (hi:(P.info? e).map (fun i=>(i.zero,i.size,i.bytes))=some (some z,k,by')) (hzs:z.cells.size=k) (hk:0<k) (hs:ρ s= .sl true k l∨(ρ s= .v (.slice none 0 0)∧l=[])) (hn:l.length=n) (hx:IsSrc (ρ x) fpx k m news) (hbx:∀y,(b,y)∉fpx)
 (hm:0<m∨l=[]) (h63:n+m≤maxLen) (hby:(n+m)*by'≤140737488355328):Yields P cx o ρ ⟨fpx,.osl b k 0 (n+m),[(b,some ⟨e,l.flatten++news⟩)]⟩:=by
 obtain⟨i0,hi0,hz0,hz1,hz2⟩:=info_parts hi
 intro ι box used a w hh hdef hfp hfr hops K Q hK
 have hu:¬used b:=by
  rcases hfr b ⟨e,l.flatten++news⟩ ai with⟨y,hy⟩|h
  ·exact absurd hy (hbx y)
  ·exact h
 have hvs:RepA ι (Mof cx ι box) w (a.eval s) (.sl true k l):=by
  have h:=hops s (aM ho (by simp[Op.operands,Call.operands]))
  rcases hs with hs|⟨hs,rfl⟩
  ·rw[hs] at h;exact h
  ·rw[hs] at h;exact GM h
 have hvx:=hops x (aM ho (by simp[Op.operands,Call.operands]))
 obtain⟨A,c,us,hxv,hul,hnl,hA0,hucell,hurep,huone⟩:=hx.rep hk hvx fun b x hb hne=>by
  obtain⟨g,h1,-,-,h4⟩:=hh.ne (hfp b x hb) hne
  exact⟨g,h1,h4⟩
 obtain⟨B,cap0,us0,hsv,hul0,hnl0,hB0,hucell0,hurep0,huone0⟩:=(IsSrc.sl (f:=true) (k:=k) (l:=l) hn).rep hk hvs (fun b x hb=>by simp at hb)
 have hcap:cap0=n:=by
  obtain⟨A',cap',h1,-,-,h4⟩:=hvs.sl'.sl_val
  rw[hsv] at h1
  injection h1 with _ h2 h3
  rw[h3,h4 rfl,hn]
 subst hcap
 have fin:∀(v':Value) (w':World),(Builtin.append_ #[t,t] o.type #[a.eval s,a.eval x]).run P w= .ok v' w'→(∀ι',Step cx ι box used w ι' (ax box [(b,some ⟨e,l.flatten++news⟩)]) (fun i=>used i∨i=b) w'→RepA ι' (Mof cx ι' (ax box [(b,some ⟨e,l.flatten++news⟩)])) w' v' (.osl b k 0 (cap0+m))→o.wp P a w K Q):=by
  intro v' w' hrun ι' hst hv
  unfold Oper.wp execOp
  simp only[ho,resolve,invoke,builtin,Sem.run_bind,Sem.run_pure,Result.andThen_ok,List.map_toArray,List.map_cons,List.map_nil,hrun]
  refine hK v' ι' w' (hst.umono ?_) hv
  rintro i (h|rfl)
  ·exact .inl h
  ·exact .inr ⟨some ⟨e,l.flatten++news⟩,by simp⟩
 have hempty:m=0→o.wp P a w K Q:=by
  intro hm0
  subst hm0
  have hl0:l=[]:=by
   rcases hm with h|h
   ·omega
   ·exact h
  subst hl0
  simp at hn
  subst hn
  have hnil:news=[]:=List.eq_nil_of_length_eq_zero (by simpa using hnl)
  subst hnil
  have s1:=CE hh (b:=b) (t:=e) hu
  refine fin (.slice B 0 0) w ?_ ι ?_ (.osl0 B b k 0)
  ·rw[hsv,hxv]
   cases A<;>cases B<;>simp[Builtin.append_,run_underlying ht,sizeOf,typeInfo,hi0,Builtin.lenOf,Builtin.firstCells,storeCells,loadCells,loadCellsFrom]
  ·simpa using s1
 cases A with
 |none=>exact hempty (hA0 rfl)
 |some ad=>
  by_cases hm0:m=0
  ·exact hempty hm0
  ·subst hz1
   obtain⟨cap,C,hr,h1,h2,h3,h4⟩:=GJ (P:=P) (w:=w) (ty:=o.type) ht hi0 hz0 hzs B cap0 us0 hul0 hB0 hucell0 ad m c us hul (hucell ad rfl) byOmega h63 (by rw[hz2];exact hby)
   have hlen2:(l.flatten++news).length=(cap0+m)*i0.size:=by rw[List.length_append,hnl0,hnl,Nat.add_mul]
   have s1:Step cx ι box used w ι box used w.drew:=mG hh rfl rfl rfl rfl
   have hC:∀(j:Nat) (v:Value) (y:AV),C[j]? =some v→(l.flatten++news)[j]? =some y→v.oneCell'=true∧RepA ι (Mof cx ι box) w v y:=by
    intro j v y hv hy
    by_cases hj:j<cap0*i0.size
    ·have hju:=h4 j us0[j] (by rw[List.getElem?_append_left byOmega];exact List.getElem?_eq_getElem byOmega)
     rw[hv] at hju
     injection hju with hju
     subst hju
     rw[List.getElem?_append_left byOmega] at hy
     exact⟨huone0 _ (List.getElem_mem _),hurep0 j _ y (List.getElem?_eq_getElem byOmega) hy⟩
    ·have hj2:j<(cap0+m)*i0.size:=by rw[←hlen2];exact(List.getElem?_eq_some_iff.1 hy).1
     rw[Nat.add_mul] at hj2
     have hju:=h4 j (us[j-cap0*i0.size]'byOmega) (by rw[List.getElem?_append_right byOmega,hul0];exact List.getElem?_eq_getElem byOmega)
     rw[hv] at hju
     injection hju with hju
     subst hju
     rw[List.getElem?_append_right byOmega,hnl0] at hy
     exact⟨huone _ (List.getElem_mem _),hurep _ _ y (List.getElem?_eq_getElem byOmega) hy⟩
   have s2:=qW s1.h (b:=b) (bx:=⟨e,l.flatten++news⟩) (c:=C) hu (by show(l.flatten++news).length≤_;rw[hlen2,h3];exact Nat.mul_le_mul_right _ h1) fun j v y hv hy=>⟨(hC j v y hv hy).1,s1.keep _ _ (hC j v y hv hy).2⟩
   refine fin _ _ (by rw[hsv,hxv];exact hr) _ ((s1.trans s2).umono ?_) (.osl (g:=w.heap.size) ?_ h1 h2 (heap_alloc_new w.drew _) (by rw[h3];simp))
   ·rintro i (h|⟨r,h⟩)
    ·exact .inl h
    ·simp at h;exact .inr h.1
   ·simp[aV]
end
end Go.Proofs.YtlikpcpllahalaaGreat.V
