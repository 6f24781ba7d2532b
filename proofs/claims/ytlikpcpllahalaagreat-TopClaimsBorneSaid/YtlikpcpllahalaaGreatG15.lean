/- Parts of the proof. -/
import Derived.Test.YtlikpcpllahalaaGreatG14
import Derived.RecoverIn
set_option linter.unusedSimpArgs false
set_option linter.unusedVariables false
namespace Go.Proofs.YtlikpcpllahalaaGreat.V
open Go.RowKit
section
variable {P:Program} {cx:Cx} {ops:Array Oper}
def mR (P:Program) (f:FuncId) (args:List AV) (ch:List PanicEntry):Prop:=
 ∀(M:Nat→Prop) (w:World) (vs:Array Value),(∀g,M g→g<w.heap.size)→vs.size=args.length→(∀(i:Nat) (v:Value) (y:AV),vs[i]? =some v→args[i]? =some y→RepD M w v y)→
  Calls P f vs w fun e w'=>e= .panicked ch∧Below w.heap.size w w'
structure PanO (P:Program) (o:Oper) (ρ:Operand→AV) (ch:List PanicEntry):Prop where
 ex:∃f l,Enters P o ρ f l∧bn P f∧l.all AV.isData=true∧mR P f l ch
 g:o.guard=none
 nd:∀c,o.op≠ .defer c
theorem IQ {o:Oper} {A:AS} {ι:Nat→Option Nat} {a:Act} {w:World} {ch:List PanicEntry} {K:Act→World→Prop} {Q:Exit→Act→World→Prop} (h:PanO P o A.eval ch) (hs:Sat cx ι A a w) (hQ:∀w',Sat cx ι A a w'→Q (.panic ch) a w'):
 o.wpIn (aT cx.R) 9 P a w K Q:=by
 obtain⟨f,l,he,hc,hd,hF⟩:=h.ex
 refine Gp h.nd ?_
 obtain⟨vs,hex,hsz,hvs⟩:=he hc ι _ a w (fun y _=>hs.eval y)
 unfold Oper.wp
 rw[hex,Oper.upon_enter]
 refine(hF (Mof cx ι A.box) w vs (fun g h=>wB hs.h h) hsz fun i v y hv hy=>(hvs i v y hv hy).toD (List.all_eq_true.1 hd y (List.mem_of_getElem? hy))).mono ?_
 rintro e w' ⟨rfl,hb⟩
 have s:=tQ hs.h hb
 exact hQ w' ⟨s.h,hs.size,hs.defers.keep s.oth,fun t=>s.keep _ _ (hs.env t)⟩
theorem IR {Q:Exit→Act→World→Prop} {A':AS} {rest:List Nat} (hQ:∀ι a w,Sat cx ι A' a w→wpOpsIn (aT cx.R) 9 P ops Q rest a w):∀(l:List Oper) (k:Nat) (rs:List R) (A:AS) (ι:Nat→Option Nat) (a:Act) (w:World),
 (∀j,j<l.length→l[j]? =ops[k+j]?)→Chain P cx ops l A rs A'→Sat cx ι A a w→wpOpsIn (aT cx.R) 9 P ops Q (List.range' k l.length++rest) a w
 | [],k,rs,A,ι,a,w,_,hc,hs=>by cases hc;simpa using hQ ι a w hs
 |o::l,k,rs,A,ι,a,w,hl,hc,hs=>by
  cases hc with
  |cons h t=>
   have h0:ops[k]? =some o:=by simpa using(hl 0 ai).symm
   rw[List.length_cons,List.range'_succ,List.cons_append,wpOpsIn_cons]
   exact yP h0 hs h fun ι' a' w' hs'=>IR hQ l (k+1) _ _ ι' a' w' (fun j hj=>by have:=hl (j+1) (by simpa using hj);simpa[Nat.add_assoc,Nat.add_comm 1 j] using this) t hs'
theorem Chain.more {pre post l:List Oper} {A A':AS} {rs:List R} (h:Chain P cx pre.toArray l A rs A'):Chain P cx (pre++post).toArray l A rs A':=by
 induction h with
 |nil=>exact .nil _
 |cons h t ih=>
  refine .cons ⟨?_,h.y,h.off,h.fp,h.fresh,h.dst,h.nd⟩ ih
  have hg:=h.g
  unfold j6 at hg ⊢
  split at hg
  ·exact hg
  ·obtain⟨d,c,b,h1,h2⟩:=hg
   refine⟨d,c,b,?_,h2⟩
   unfold gH at h1 ⊢
   simp only[List.getElem?_toArray,Option.bind_eq_some_iff] at h1 ⊢
   obtain⟨o,ho,hd⟩:=h1
   exact⟨o,by rw[List.getElem?_append_left (List.getElem?_eq_some_iff.1 ho).1];exact ho,hd⟩
theorem IU {id n k:Nat} {l pre:List Oper} {o:Oper} {env:Env} {box:ay} {Q:Exit→Act→World→Prop} {S:Env→ay→Prop} (hp:l.take k=pre) (ho:l[k]? =some o) (hd:pI cx.N pre.toArray=true) (hs:Nat.ble (8*pre.length) 1000=true)
 (h:aJ P cx pre.toArray false n pre 0 env box [] [] S)
 (hQ:∀ι a w env' box',Sat cx ι (⟨env',box',n+1000⟩:LS).toAS a w→S env' box'→wpOpsIn (aT cx.R) 9 P l.toArray Q (List.range' k (l.length-k)) a w) {ι:Nat→Option Nat} {a:Act} {w:World} (hs0:Sat cx ι (⟨env,box,n⟩:LS).toAS a w):
 (Code.region id l.toArray false).wpIn (aT cx.R) 9 P Q a w:=by
 subst hp
 have hk:k<l.length:=(List.getElem?_eq_some_iff.1 ho).1
 have hlen:(l.take k).length=k:=by simp;omega
 obtain⟨rs,env',box',u',hc,-,hu,hq⟩:=pJ hd (l.take k) 0 env box [] [] ai ai ai h
 refine wpIn_region ?_
 have hr:List.range l.toArray.size=List.range' 0 (l.take k).length++List.range' k (l.length-k):=by
  rw[List.range_eq_range',hlen,show l.toArray.size=k+(l.length-k) by simp;omega]
  have:=List.range'_append_1 (s:=0) (m:=k) (n:=l.length-k)
  rw[Nat.zero_add] at this
  exact this.symm
 rw[hr]
 have hc2:Chain P cx l.toArray (l.take k) (bB env box n []) rs (bB env' box' n u'):=by
  have:=hc.more (post:=l.drop k)
  rwa [List.take_append_drop] at this
 refine IR (fun ι1 a1 w1 hs1=> ?_) (l.take k) 0 rs _ ι a w (fun j hj=> ?_) hc2 hs0
 ·refine hQ ι1 a1 w1 env' box' (hs1.ent ⟨fun t=> .inr rfl,fun b x h=>h,fun b hb=> ?_⟩) hq
  have:=Nat.le_of_ble_eq_true hs
  refine .inl ?_
  rcases hb with hb|hb
  ·show b<n+1000;omega
  ·have h3:=hu b hb
   simp only[List.size_toArray] at h3
   show b<n+1000;omega
 ·rw[hlen] at hj
  simp[List.getElem?_take,hj]
theorem mU (k:Nat) {id n:Nat} {l pre:List Oper} {o:Oper} {env:Env} {box:ay} {Q:Exit→LS→Prop} {ch:List PanicEntry} (hp:l.take k=pre) (ho:l[k]? =some o) (hd:pI cx.N pre.toArray=true) (hs:Nat.ble (8*pre.length) 1000=true)
 (h:∀K:Env→ay→Prop,(∀env' box',PanO P o (aI env') ch∧Q (.panic ch) ⟨env',box',n+1000⟩→K env' box')→aJ P cx pre.toArray false n pre 0 env box [] [] K):
 aY P cx (.region id l.toArray false) Q ⟨env,box,n⟩:=by
 intro ι a w hs0
 refine IU (S:=fun e b=>PanO P o (aI e) ch∧Q (.panic ch) ⟨e,b,n+1000⟩) hp ho hd hs (h _ fun _ _ h=>h) (fun ι1 a1 w1 env' box' hs1 hS=> ?_) hs0
 have hk:k<l.length:=(List.getElem?_eq_some_iff.1 ho).1
 rw[show l.length-k=l.length-k-1+1 by omega,List.range'_succ,wpOpsIn_cons]
 unfold wpOpIn
 have ho':l.toArray[k]? =some o:=by simpa using ho
 have hw:Region.wanted o (yielded l.toArray a1.tmps)=true:=by simp[Region.wanted,hS.1.g]
 simp only[ho',hw,if_true]
 exact IQ (A:=bB env' box' (n+1000) []) (by rw[kv];exact hS.1) hs1 fun w' hs'=>⟨ι1,_,hs',_,rfl,hS.2⟩
theorem lu {o:Oper} {f:FuncId} {args:Array Operand} {ats:Array TypeId} {env:Env} {ch:List PanicEntry} {l:List AV} (ho:o.op= .call {callee:= .value (.func f),args:=args,argTypes:=ats}) (hg:o.guard=none) (hc:bn P f) (hl:args.toList.map (aI env)=l) (hd:l.all AV.isData=true) (hF:mR P f l ch):
 PanO P o (aI env) ch:=by
 subst hl
 exact⟨⟨f,_,yU ho,hc,hd,hF⟩,hg,fun c h=>by rw[ho] at h;cases h⟩
theorem Marks.congr {cx cx':Cx} (h:cx.w0=cx'.w0) {w:World}:∀ {l:List Deferred},Marks cx w l→Marks cx' w l
 | [],_=>trivial
 |_::_,⟨⟨D,h1,h2,h3,h4⟩,h5⟩=>⟨⟨D,h1,by unfold Cx.base at h2 ⊢;rw[←h];exact h2,h3,h4⟩,Marks.congr h h5⟩
theorem zN {ι:Nat→Option Nat} {A:AS} {fn:Func} {tmps:Array Value} {R:Ending→World→Prop} {u:FrameMode} (hu:u≠ .run) {tail n0:List Deferred}:∀(m:List Deferred) (w:World),HSat cx ι A.box A.used w→Marks cx w (m++n0)→
 (∀t,RepA ι (Mof cx ι A.box) w (tmps.getD t undef) (A.env t))→
 (∀w',HSat cx ι A.box A.used w'→Marks cx w' n0→(∀t,RepA ι (Mof cx ι A.box) w' (tmps.getD t undef) (A.env t))→LeavesInM (aT none) 9 P fn tmps R tail u w')→LeavesInM (aT none) 9 P fn tmps R (m++tail) u w
 | [],w,hs,hm,he,h=>h w hs hm he
 |d::m,w,hs,⟨⟨D,hd,hD,hh,hne⟩,hm⟩,he,h=>by
  have ho:∀o,w.heap[D]? =some o→iC o=false:=fun o h=>by rw[hh] at h;injection h with h;subst h;rfl
  refine⟨hu,.inl ⟨D,_,by rw[hd],run_takeDeferred hh,?_⟩⟩
  refine zN hu m _ (GL hs hD ho) ?_ (fun t=>(he t).obj ho) h
  have key:∀l:List Deferred,(∀d',d'∈l→d'≠ {target:= .collected D,args:= #[]})→Marks cx w l→Marks cx (w.putObj D (.deferred none)) l:=by
   intro l
   induction l with
   |nil=>intro _ _;trivial
   |cons d l ih=>
    rintro hne ⟨⟨E,h1,h2,h3,h4⟩,h5⟩
    have hE:E≠D:=by rintro rfl;exact hne d ai h1
    exact⟨⟨E,h1,h2,by rw[World.putObj_heap_other hE];exact h3,h4⟩,ih (fun d' h=>hne d' (List.mem_cons_of_mem _ h)) h5⟩
  exact key _ hne hm
theorem IV {M:Nat→Prop} {w:World} {vs:Array Value} {args:List AV} {nt:Nat} {D:List Deferred} (hD:D=[]) (hM:∀g,M g→g<w.heap.size) (hsz:vs.size=args.length) (hn:args.length≤nt) (hvs:∀(i:Nat) (v:Value) (y:AV),vs[i]? =some v→args[i]? =some y→RepD M w v y):
 Sat ⟨w,fun _=>False,M,nt,none,fun _=>none,D⟩ (fun _=>none) (⟨dP args 0,[],0⟩:LS).toAS {tmps:=vs++Array.replicate (nt-vs.size) undef,defers:=[]} w:=by
 have he:(⟨dP args 0,[],0⟩:LS).toAS=⟨jK args,fun _=>none,fun _=>False⟩:=by
  unfold LS.toAS bB
  congr 1
  ·funext t
   rw[uf]
   simp[jK]
  ·funext b
   simp
 rw[he]
 subst hD
 refine⟨⟨⟨rfl,rfl,rfl,Evo.refl w,Oth.refl w,fun _ _ _=>rfl⟩,hM,(by intro b g h;cases h),(by intro b g h;cases h),(by intro b x h;cases h),(by intro b x h;cases h),(by intro b b' x x' g h;cases h)⟩,?_,⟨[],[],rfl,trivial⟩,?_⟩
 ·show(vs++Array.replicate (nt-vs.size) undef).size=nt
  simp
  omega
 ·intro t
  show RepA _ _ w ((vs++Array.replicate (nt-vs.size) undef).getD t undef) (args.getD t .any)
  by_cases ht:t<args.length
  ·have h1:t<vs.size:=byOmega
   have h2:=hvs t vs[t] args[t] (Array.getElem?_eq_getElem h1) (List.getElem?_eq_getElem ht)
   rw[Array.getD_eq_getD_getElem?,Array.getElem?_append_left h1,Array.getElem?_eq_getElem h1]
   simp only[Option.getD_some]
   rw[show args.getD t .any=args[t] by simp[List.getD,ht]]
   refine .d (h2.keep (fun g _ h=> ?_) (Nat.le_refl _) fun _ _ _=>rfl)
   rcases h with h|⟨b,x,h,-⟩
   ·exact h
   ·cases h
  ·rw[show args.getD t .any= .any by simp[List.getD,List.getElem?_eq_none (Nat.le_of_not_lt ht)]]
   exact .any _
theorem Sn {f:FuncId} {fn:Func} {c:Code} {args:List AV} {ch:List PanicEntry} (hf:P.funcs[f]? =some fn) (hb:fn.body=some c) (hn:args.length≤fn.ntmps)
 (h:∀cx:Cx,cx.N=fn.ntmps→cx.R=none→cx.F=(fun _=>none)→args.all AV.lens=true→aY P cx c (fun e _=>e= .panic ch) ⟨dP args 0,[],0⟩):mR P f args ch:=by
 intro M w vs hM hsz hvs
 refine qV.1 (callsIn_of_wp_marks (F:=aT none) (n:=9) hf hb trivial ?_ rfl)
 refine wpIn_mono (h ⟨w,fun _=>False,M,fn.ntmps,none,fun _=>none,[]⟩ rfl rfl rfl (mH fun i y hy=>(hvs i _ y (Array.getElem?_eq_getElem (by have:=(List.getElem?_eq_some_iff.1 hy).1;omega)) hy).lens) _ _ w (IV rfl hM hsz hn hvs)) ?_
 rintro e a' w' ⟨ι',A',hs',L,rfl,rfl⟩
 show LeavesInM (aT none) 9 P fn a'.tmps _ a'.defers (.panicking ch) w'
 have hm:=hs'.defers.marks rfl
 have:=zN (P:=P) (fn:=fn) (R:=fun e w'=>e= .panicked ch∧Below w.heap.size w w') (u:= .panicking ch) ai (tail:=[]) (n0:=[]) a'.defers w' hs'.h (by rw[List.append_nil];exact hm) hs'.env fun w1 hs1 _ _=>
  show _ from⟨rfl,hs1.wi.os,hs1.wi.tape,hs1.wi.output,hs1.wi.evo.size,fun k hk=>hs1.wi.block k hk (fun h=>h)⟩
 rwa [List.append_nil] at this
def laid (c:Array Value) (l:List Value):Array Value:=(l++c.toList.drop l.length).toArray
def Eff (w:World):List (Nat×List Value)→World→Prop
 | [],w'=>w'.heap=w.heap∧w'.os=w.os∧w'.tape=w.tape∧w'.output=w.output
 |(b,l)::r,w'=>∃c t,w.heap[b]? =some (.cells c t (0,0))∧l.length≤c.size∧Eff (w.setRow b (laid c l)) r w'
def ptrs (bs:List Nat):Array Value:=(bs.map fun b=>Value.pointer (some ⟨b,0,none⟩)).toArray
def DT (P:Program) (g:FuncId) (k:Nat):Prop:=∀(bs:List Nat) (w:World),bs.length=k→CallsDIn (aT none) 8 P g (ptrs bs) .returning w fun e u w'=>(∃r,e= .returned r)∧u= .returning∧w'=w
def DU (P:Program) (g:FuncId) (v:Value) (news:List (List Value)):Prop:=∀(bs:List Nat) (w:World),bs.length=news.length→bs.Nodup→
 (∀(i b:Nat) (l:List Value),bs[i]? =some b→news[i]? =some l→∃c t,w.heap[b]? =some (.cells c t (0,0))∧l.length≤c.size)→
 CallsDIn (aT none) 8 P g (ptrs bs) (.panicking [{v,recovered:=false}]) w fun e u w'=>(∃r,e= .returned r)∧u= .panicking [{v,recovered:=true}]∧Eff w (bs.zip news) w'
def iN (box:ay):List (Nat×TypeId×List Value)→ay
 | []=>box
 |(n,t,l)::r=>iN ((n,some ⟨t,l.map AV.v⟩)::box) r
theorem IW {ι:Nat→Option Nat} {used:Nat→Prop}:∀ {ns:List (Nat×TypeId×List Value)} {bs:List Nat} {box:ay} {w w':World},HSat cx ι (ah box) used w→ns.length=bs.length→
 (∀(i:Nat) (p:Nat×TypeId×List Value) (b:Nat),ns[i]? =some p→bs[i]? =some b→ι p.1=some b∧(∃x,ah box p.1=some x∧x.t=p.2.1)∧∀v,v∈p.2.2→v.oneCell'=true)→Eff w (bs.zip (ns.map fun p=>p.2.2)) w'→
 HSat cx ι (ah (iN box ns)) used w'∧(∀v y,RepA ι (Mof cx ι (ah box)) w v y→RepA ι (Mof cx ι (ah (iN box ns))) w' v y)∧Oth w w'
 | [],bs,box,w,w',hs,hl,_,he=>by
   have hb:bs=[]:=List.eq_nil_of_length_eq_zero (by simpa using hl.symm)
   subst hb
   obtain⟨h1,h2,h3,h4⟩:=he
   have s:=mG hs h1 h2 h3 h4
   exact⟨s.h,s.keep,s.oth⟩
 |(n,t,l)::ns,bs,box,w,w',hs,hl,hb,he=>by
  obtain⟨b,bs,rfl⟩:=List.exists_cons_of_length_pos (l:=bs) (by simp at hl;omega)
  obtain⟨c,t',h1,h2,h3⟩:=he
  have h2:l.length≤c.size:=h2
  have h1:w.heap[b]? =some (.cells c t' (0,0)):=h1
  obtain⟨e1,⟨x,e2,e3⟩,e4⟩:=hb 0 _ _ rfl rfl
  simp only at e1 e2 e3 e4
  have ht:t'=t:=by
   rcases hs.own _ _ e2 with⟨-,h⟩|⟨g,g1,-,-,c',g4,-⟩
   ·rw[h] at e1;cases e1
   ·rw[g1] at e1;injection e1 with e1;subst e1
    rw[h1] at g4;injection g4 with g4;injection g4 with _ g5 _
    rw[g5,e3]
  subst ht
  have hsz:(laid c l).size=c.size:=by simp[laid];omega
  have s:=tO hs (bx:=x) (bx':=⟨t',l.map AV.v⟩) (c':=laid c l) e2 e1 (by rw[e3];exact h1) hsz (by rw[hsz];simpa using h2) e3.symm (fun j v y hv hy=>by
   simp only[List.getElem?_map,Option.map_eq_some_iff] at hy
   obtain⟨u,hu,rfl⟩:=hy
   have hj:j<l.length:=(List.getElem?_eq_some_iff.1 hu).1
   simp only[laid,List.getElem?_toArray,List.getElem?_append_left hj,hu,Option.some.injEq] at hv
   subst hv
   exact⟨e4 _ (List.mem_of_getElem? hu),.d (.v _)⟩)
  have hq:ax (ah box) [(n,some (⟨t',l.map AV.v⟩:Bx))]=ah ((n,some ⟨t',l.map AV.v⟩)::box):=by funext i;simp[ah,ax]
  rw[hq] at s
  have hus:HSat cx ι (ah ((n,some (⟨t',l.map AV.v⟩:Bx))::box)) used (w.setRow b (laid c l)):=by
   refine s.h.used_mono fun i hi=> ?_
   rcases hi with hi|⟨r,hi⟩
   ·exact hi
   ·simp at hi;rw[hi.1];exact(hs.dom n b e1).1
  obtain⟨k1,k3,k4⟩:=IW (ns:=ns) (bs:=bs) hus (by simpa using hl) (fun i p b' hp hb'=>by
   obtain⟨f1,⟨x',f2,f3⟩,f4⟩:=hb (i+1) p b' (by simpa using hp) (by simpa using hb')
   refine⟨f1,?_,f4⟩
   by_cases hpn:p.1=n
   ·rw[hpn] at f2 f1
    rw[e2] at f2;injection f2 with f2;subst f2
    exact⟨⟨t',l.map AV.v⟩,by rw[hpn];simp[ah,ax],by rw[←f3,e3]⟩
   ·exact⟨x',by simpa[ah,ax,hpn] using f2,f3⟩) h3
  exact⟨k1,fun v y h=>k3 _ _ (s.keep _ _ h),s.oth.trans k4⟩
structure DefO (o:Oper) (ρ:Operand→AV) (g:FuncId) (ns:List Nat):Prop where
 ex:∃(cl:Call) (y:Operand) (first caps:List AV),o.op= .defer cl∧cl.callee= .value y∧(ρ y= .fn (.func g) first caps∨(ρ y= .v (.func (.func g) #[] #[])∧first=[]∧caps=[]))∧first++cl.args.toList.map ρ++caps=ns.map fun n=>AV.ptr n 0
 g:o.guard=none
 d:o.dst=none
def IX (P:Program) (g:FuncId) (rs:Array ResultVar) (x:AV) (ns:List Nat):Exit→LS→Prop
 | .normal,L| .ret,L=>jb P rs x .ret L
 | .panic ch,L=>∃v ts,ch=[{v,recovered:=false}]∧ts.map (·.1)=ns∧DU P g v (ts.map fun p=>p.2.2)∧
   (∀p,p∈ts→(∃y,ah L.box p.1=some y∧y.t=p.2.1∧p.2.2.length≤y.cs.length∧y.cs≠ [])∧∀v,v∈p.2.2→v.oneCell'=true)∧jb P rs x .ret ⟨L.env,iN L.box ts,L.next⟩
 |_,_=>False
theorem IY {ι:Nat→Option Nat} {M:Nat→Prop} {w:World}:∀ {ns:List Nat} {vs:List Value},vs.length=ns.length→(∀(i:Nat) (v:Value) (n:Nat),vs[i]? =some v→ns[i]? =some n→RepA ι M w v (.ptr n 0))→
 ∃bs:List Nat,vs=bs.map (fun b=>Value.pointer (some ⟨b,0,none⟩))∧bs.length=ns.length∧∀(i n b:Nat),ns[i]? =some n→bs[i]? =some b→ι n=some b
 | [],[],_,_=>⟨[],rfl,rfl,by simp⟩
 |n::ns,v::vs,hl,h=>by
  obtain⟨bs,h1,h2,h3⟩:=IY (ns:=ns) (vs:=vs) (by simpa using hl) fun i v n hv hn=>h (i+1) v n (by simpa using hv) (by simpa using hn)
  obtain⟨b,hb,rfl⟩:=(h 0 v n rfl rfl).ptr'
  refine⟨b::bs,by rw[h1];rfl,by simp[h2],fun i m c hm hc=> ?_⟩
  rcases i with _|i
  ·simp at hm hc;subst hm hc;exact hb
  ·exact h3 i m c (by simpa using hm) (by simpa using hc)
theorem jO {f g:FuncId} {fn:Func} {R0 rest:Code} {args:List AV} {x:AV} {id:Nat} (k:Nat) {l pre:List Oper} {o:Oper} {ns:List Nat} (hf:P.funcs[f]? =some fn) (hb:fn.body=some (.seq R0 (.seq (.region id l.toArray false) rest))) (hn:args.length≤fn.ntmps)
 (hcg:bn P g) (hret:DT P g ns.length) (hnd:ns.Nodup) (hp:l.take k=pre) (ho:l[k]? =some o) (hk:l.length=k+1) (hd:pI fn.ntmps pre.toArray=true) (hsz8:Nat.ble (8*pre.length) 1000=true)
 (h:∀cx:Cx,cx.N=fn.ntmps→cx.R=none→cx.F=(fun _=>none)→args.all AV.lens=true→aY P cx R0 (fun e L=>e= .normal∧aJ P cx pre.toArray false L.next pre 0 L.env L.box [] [] fun env' box'=>
   DefO o (aI env') g ns∧(∀b,b∈ns→∃y,ah box' b=some y∧y.cs≠ [])∧∀cx':Cx,cx'.N=fn.ntmps→cx'.R=none→(∀b q,cx'.F b=some q→b∈ns)→aY P cx' rest (IX P g fn.results x ns) ⟨env',box',L.next+1000⟩) ⟨dP args 0,[],0⟩):Fun P f args x:=by
 intro M w vs hM hsz hvs
 refine qV.1 (callsIn_of_wp_marks (F:=aT none) (n:=9) hf hb trivial ?_ rfl)
 refine wpIn_seq (wpIn_mono (h ⟨w,fun _=>False,M,fn.ntmps,none,fun _=>none,[]⟩ rfl rfl rfl (mH fun i y hy=>(hvs i _ y (Array.getElem?_eq_getElem (by have:=(List.getElem?_eq_some_iff.1 hy).1;omega)) hy).lens) _ _ w (IV rfl hM hsz hn hvs)) ?_)
 rintro e a1 w1 ⟨ι1,A1,hs1,L,rfl,rfl,hreg⟩
 refine wpIn_seq ?_
 refine IU (cx:=⟨w,fun _=>False,M,fn.ntmps,none,fun _=>none,[]⟩) hp ho hd hsz8 hreg (fun ι2 a2 w2 env' box' hs2 hS=> ?_) hs1
 obtain⟨hO,hbx,hrest⟩:=hS
 obtain⟨cl,y,first,caps,e1,e2,e3,e4⟩:=hO.ex
 have hy:=hs2.eval y
 have hev:(⟨env',box',L.next+1000⟩:LS).toAS.eval=aI env':=kv _ _ _ _
 rw[hev] at hy
 obtain⟨fs,cs,g1,g2,g3,g4,g5⟩:∃fs cs:Array Value,a2.eval y= .func (.func g) fs cs∧fs.size=first.length∧cs.size=caps.length∧(∀(i:Nat) (v:Value) (z:AV),fs[i]? =some v→first[i]? =some z→RepA ι2 _ w2 v z)∧
  (∀(i:Nat) (v:Value) (z:AV),cs[i]? =some v→caps[i]? =some z→RepA ι2 _ w2 v z):=by
  rcases e3 with e3|⟨e3,rfl,rfl⟩
  ·rw[e3] at hy;exact hy.fn'
  ·rw[e3] at hy;exact⟨#[],#[],hy.ofV,rfl,rfl,by simp,by simp⟩
 have hall:∀(i:Nat) (v:Value) (z:AV),(fs++cl.args.map a2.eval++cs)[i]? =some v→(first++cl.args.toList.map (aI env')++caps)[i]? =some z→RepA ι2 (Mof ⟨w,fun _=>False,M,fn.ntmps,none,fun _=>none,[]⟩ ι2 (ah box')) w2 v z:=by
  refine yV (by simp[g2]) (yV g2 g4 fun i v z hv hz=> ?_) g5
  simp only[Array.getElem?_map,Option.map_eq_some_iff,List.getElem?_map,Array.getElem?_toList] at hv hz
  obtain⟨p,hp1,rfl⟩:=hv
  obtain⟨q,hq1,rfl⟩:=hz
  rw[hp1] at hq1
  injection hq1 with hq1
  subst hq1
  have:=hs2.eval p
  rw[hev] at this
  exact this
 rw[e4] at hall
 obtain⟨bs,b1,b2,b3⟩:=IY (ι:=ι2) (M:=Mof ⟨w,fun _=>False,M,fn.ntmps,none,fun _=>none,[]⟩ ι2 (ah box')) (w:=w2) (ns:=ns) (vs:=(fs++cl.args.map a2.eval++cs).toList) (by
  have h5:=congrArg List.length e4
  simp at h5
  simp[g2,g3,h5]) (fun i v n hv hn=>hall i v _ (by rw[Array.getElem?_toList] at hv;exact hv) (by rw[List.getElem?_map,hn];rfl))
 have hbs:fs++cl.args.map a2.eval++cs=ptrs bs:=by apply Array.ext';rw[b1];rfl
 rw[hk,show k+1-k=0+1 by omega,List.range'_succ,wpOpsIn_cons]
 unfold wpOpIn
 have ho':l.toArray[k]? =some o:=by simpa using ho
 have hw:Region.wanted o (yielded l.toArray a2.tmps)=true:=by simp[Region.wanted,hO.g]
 simp only[ho',hw,if_true]
 obtain⟨d,hdd⟩:∃d:Deferred,d={target:= .fn (.func g) cs,args:=fs++cl.args.map a2.eval}:=⟨_,rfl⟩
 have hex:(execOp a2.eval o).run P w2= .ok (.defer d) w2:=by
  subst hdd
  simp[execOp,e1,resolve,e2,g1,Deferred.ofValue]
 refine⟨fun _ _=>trivial,?_⟩
 have hsa:Oper.semAt (aT none).round a2.eval o=execOp a2.eval o:=Oper.semAt_none _ _
 rw[show(aT (⟨w,fun _=>False,M,fn.ntmps,none,fun _=>none,[]⟩:Cx).R)=aT none from rfl,hsa,hex,Oper.uponIn_defer,hO.d]
 have hinv:∀w,(invoke d.target d.args).run P w= .ok (.enter g (ptrs bs)) w:=fun w=>by
  have:=hcg (ptrs bs) w
  rw[hdd,←hbs] at *
  exact this
 have hs3:Sat ⟨w,fun _=>False,M,fn.ntmps,none,fun n=>if n∈ns then ι2 n else none,[d]⟩ ι2 (⟨env',box',L.next+1000⟩:LS).toAS {a2 with defers:=d::a2.defers} w2:=by
  obtain⟨m,n0,q1,q2⟩:=hs2.defers
  refine⟨⟨⟨hs2.h.wi.os,hs2.h.wi.tape,hs2.h.wi.output,hs2.h.wi.evo,hs2.h.wi.oth,hs2.h.wi.block⟩,hs2.h.m0,fun b q hb=> ?_,hs2.h.dom,hs2.h.ub,hs2.h.own,hs2.h.inj⟩,hs2.size,⟨[],m++n0,by show d::a2.defers=_;rw[q1];rfl,Marks.congr (by rfl) q2⟩,hs2.env⟩
  simp only at hb
  split at hb
  ·exact hb
  ·cases hb
 refine wpIn_mono (hrest _ rfl rfl (fun b q hb=>by
  have hb:(if b∈ns then ι2 b else none)=some q:=hb
  by_cases hq:b∈ns
  ·exact hq
  ·rw[if_neg hq] at hb;cases hb) ι2 _ w2 hs3) ?_
 rintro e a4 w4 ⟨ι4,A4,hs4,L4,rfl,hE⟩
 obtain⟨m,n0,hdef,hmk⟩:=hs4.defers
 have hfix:∀(i n b:Nat),ns[i]? =some n→bs[i]? =some b→ι4 n=some b:=fun i n b h1 h2=>by
  refine hs4.h.fix n b ?_
  show(if n∈ns then ι2 n else none)=some b
  rw[if_pos (List.mem_of_getElem? h1)]
  exact b3 i n b h1 h2
 have fin:∀(box5:ay) (w5:World),HSat ⟨w,fun _=>False,M,fn.ntmps,none,fun n=>if n∈ns then ι2 n else none,[d]⟩ ι4 (ah box5) (L4.toAS).used w5→Marks ⟨w,fun _=>False,M,fn.ntmps,none,fun n=>if n∈ns then ι2 n else none,[d]⟩ w5 n0→
  (∀t,RepA ι4 (Mof ⟨w,fun _=>False,M,fn.ntmps,none,fun n=>if n∈ns then ι2 n else none,[d]⟩ ι4 (ah box5)) w5 (a4.tmps.getD t undef) (bf L4.env t))→jb P fn.results x .ret ⟨L4.env,box5,L4.next⟩→
  LeavesInM (aT none) 9 P fn a4.tmps (fun e w'=>∃v,e= .returned v∧RepD M w' v x∧Below w.heap.size w w') n0 .returning w5:=by
  intro box5 w5 k1 k2 k3 k4
  obtain⟨y,fp,hr,hfp,hz⟩:∃y fp,Ress P (⟨L4.env,box5,L4.next⟩:LS).toAS fn.results y∧(∀b x,(b,x)∈fp→ah box5 b=some x)∧Frz fp y x:=xh k4
  refine yX (A:=(⟨L4.env,box5,L4.next⟩:LS).toAS) n0 w5 k1 k2 k3 fun w1 hs1 henv=> ?_
  obtain⟨v,hrun,hv⟩:=G5 (A:=(⟨L4.env,box5,L4.next⟩:LS).toAS) hs1 henv hr
  refine⟨v,hrun,v,rfl,?_,hs1.wi.os,hs1.wi.tape,hs1.wi.output,hs1.wi.evo.size,fun k hk=>hs1.wi.block k hk (fun h=>h)⟩
  exact(tT hs1 hfp hz hv).keep (fun g _ h=> .inl h) (Nat.le_refl _) fun _ _ _=>rfl
 have kret:jb P fn.results x .ret L4→LeavesInM (aT none) 9 P fn a4.tmps (fun e w'=>∃v,e= .returned v∧RepD M w' v x∧Below w.heap.size w w') a4.defers .returning w4:=fun hE=>by
  rw[hdef]
  refine zN (n0:=n0) ai m w4 hs4.h hmk hs4.env fun w5 k1 k2 k3=> ?_
  refine⟨by simp,.inr ⟨fun _=>by omega,_,_,g,_,(by rw[hdd]),hinv w5,fun _ _=>trivial,(hret bs w5 b2).mono ?_⟩⟩
  rintro e u w6 ⟨⟨r,rfl⟩,rfl,rfl⟩
  exact fin L4.box w6 k1 k2 k3 hE
 cases e with
 |normal=>exact kret hE
 |ret=>exact kret hE
 |panic ch=>
  obtain⟨v,ts,rfl,t1,t2,t3,t4⟩:=hE
  show LeavesInM (aT none) 9 P fn a4.tmps _ a4.defers (.panicking _) w4
  rw[hdef]
  refine zN (n0:=n0) ai m w4 hs4.h hmk hs4.env fun w5 k1 k2 k3=> ?_
  have htl:ts.length=ns.length:=by rw[←t1];simp
  have hnt:∀(i:Nat) (p:Nat×TypeId×List Value),ts[i]? =some p→ns[i]? =some p.1:=fun i p hp=>by rw[←t1,List.getElem?_map,hp];rfl
  have hblk:∀(i:Nat) (p:Nat×TypeId×List Value) (b:Nat),ts[i]? =some p→bs[i]? =some b→∃c,w5.heap[b]? =some (.cells c p.2.1 (0,0))∧p.2.2.length≤c.size:=fun i p b hp hb=>by
   obtain⟨⟨y,y1,y2,y3,y4⟩,-⟩:=t3 p (List.mem_of_getElem? hp)
   obtain⟨g,h1,-,-,c,h4,h5,-⟩:=k1.ne y1 y4
   have h6:=hfix i p.1 b (hnt i p hp) hb
   rw[h1] at h6;injection h6 with h6;subst h6
   exact⟨c,by rw[←y2];exact h4,by omega⟩
  have hbn:bs.Nodup:=by
   refine List.pairwise_iff_getElem.2 fun i j hi hj hij he=> ?_
   have hb1:bs[j]? =some bs[j]:=List.getElem?_eq_getElem hj
   have hb0:bs[i]? =some bs[j]:=by rw[←he];exact List.getElem?_eq_getElem hi
   obtain⟨p,hp⟩:∃p,ts[i]? =some p:=⟨_,List.getElem?_eq_getElem byOmega⟩
   obtain⟨q,hq⟩:∃q,ts[j]? =some q:=⟨_,List.getElem?_eq_getElem byOmega⟩
   obtain⟨⟨y,y1,-⟩,-⟩:=t3 p (List.mem_of_getElem? hp)
   obtain⟨⟨z,z1,-⟩,-⟩:=t3 q (List.mem_of_getElem? hq)
   have h1:=hfix i p.1 _ (hnt i p hp) hb0
   have h2:=hfix j q.1 _ (hnt j q hq) hb1
   have h3:=k1.inj _ _ _ _ _ y1 z1 h1 h2
   have h4:=hnt i p hp
   have h5:=hnt j q hq
   rw[h3] at h4
   have hi':i<ns.length:=byOmega
   have hj':j<ns.length:=byOmega
   refine List.pairwise_iff_getElem.1 hnd i j hi' hj' hij ?_
   rw[List.getElem?_eq_getElem hi'] at h4
   rw[List.getElem?_eq_getElem hj'] at h5
   exact Option.some.inj (h4.trans h5.symm)
  refine⟨by simp,.inr ⟨fun _=>by omega,_,_,g,_,(by rw[hdd]),hinv w5,fun _ _=>trivial,(t2 bs w5 (by simp[b2,htl]) hbn (fun i b l hb hl=> ?_)).mono ?_⟩⟩
  ·rw[List.getElem?_map,Option.map_eq_some_iff] at hl
   obtain⟨p,hp,rfl⟩:=hl
   obtain⟨c,h1,h2⟩:=hblk i p b hp hb
   exact⟨c,_,h1,h2⟩
  ·rintro e u w6 ⟨⟨r,rfl⟩,rfl,hE⟩
   obtain⟨f1,f2,f3⟩:=IW (ns:=ts) (bs:=bs) k1 (by rw[htl,b2]) (fun i p b hp hb=>by
    obtain⟨⟨y,y1,y2,-,-⟩,h5⟩:=t3 p (List.mem_of_getElem? hp)
    exact⟨hfix i p.1 b (hnt i p hp) hb,⟨y,y1,y2⟩,h5⟩) hE
   exact fin (iN L4.box ts) w6 f1 (k2.keep f3) (fun t=>f2 _ _ (k3 t)) t4
 |_=>exact hE.elim
end
end Go.Proofs.YtlikpcpllahalaaGreat.V
