/- Parts of the proof. -/
import Derived.Test.YtlikpcpllahalaaGreatG7
set_option linter.unusedSimpArgs false
set_option linter.unusedVariables false
namespace Go.Proofs.YtlikpcpllahalaaGreat.V
open Go.RowKit
structure LS where
 env:Env
 box:ay
 next:Nat
abbrev LS.toAS (A:LS):AS:=bB A.env A.box A.next []
def mI (ops:Array Oper) (acc:List (List Nat×List Nat)):Prop:=wu .any ops.toList 0 acc.reverse=true
def guardOf (env:Env) (want:Bool) (d:Tmp):Option Bool:=
 match bf env d with
 | .v (.bool b)=>some (cond want b (!b))
 | .iff c (.v (.bool b))=>some (c&&cond want b (!b))
 |_=>none
def aJ (P:Program) (cx:Cx) (ops:Array Oper) (draw:Bool) (n0:Nat):List Oper→Nat→Env→ay→List Nat→List (List Nat×List Nat)→(Env→ay→Prop)→Prop
 | [],_,env,box,_,acc,K=>(draw=true→mI ops acc)∧K env box
 |o::rest,i,env,box,u,acc,K=>
  match o.guard with
  |none=>iK P cx True env box (n0+8*i) o fun S=>(S.tb.all (fun p=>decide (p.1<n0+8*i+8))=true)∧aJ P cx ops draw n0 rest (i+1) (dA o.dst S.x env) (S.tb++box) (S.tb.map (·.1)++u) (S.nm::acc) K
  |some (j,want)=>match gH ops j with
   |some d=>match guardOf env want d with
    |some g=>(g=false∧aJ P cx ops draw n0 rest (i+1) (dA o.dst (.iff false (.v (.bool false))) env) box u (([],[])::acc) K)∨iK P cx (g=true) env box (n0+8*i) o fun S=>(S.tb.all (fun p=>decide (p.1<n0+8*i+8))=true)∧match S.tb.all (fun p=>p.2.isNone) with
     |true=>aJ P cx ops draw n0 rest (i+1) (dA o.dst (.iff g S.x) env) (S.tb++box) (S.tb.map (·.1)++u) (S.nm::acc) K
     |false=>(g=true→aJ P cx ops draw n0 rest (i+1) (dA o.dst S.x env) (S.tb++box) (S.tb.map (·.1)++u) (S.nm::acc) K)∧
      (g=false→aJ P cx ops draw n0 rest (i+1) (dA o.dst (.iff false S.x) env) box u ((S.reads,[])::acc) K)
    |none=>False
   |none=>False
section
variable (P:Program) (cx:Cx) (ops:Array Oper) (draw:Bool) (n0:Nat) (rest:List Oper) (i:Nat) (env:Env) (box:ay) (u:List Nat) (acc:List (List Nat×List Nat)) (K:Env→ay→Prop)
def eP (dst:Option Tmp) (S:OpS):Prop:=(S.tb.all (fun p=>decide (p.1<n0+8*i+8))=true)∧aJ P cx ops draw n0 rest (i+1) (dA dst S.x env) (S.tb++box) (S.tb.map (·.1)++u) (S.nm::acc) K
def fT (g:Bool) (dst:Option Tmp) (S:OpS):Prop:=(S.tb.all (fun p=>decide (p.1<n0+8*i+8))=true)∧match S.tb.all (fun p=>p.2.isNone) with
 |true=>aJ P cx ops draw n0 rest (i+1) (dA dst (.iff g S.x) env) (S.tb++box) (S.tb.map (·.1)++u) (S.nm::acc) K
 |false=>(g=true→aJ P cx ops draw n0 rest (i+1) (dA dst S.x env) (S.tb++box) (S.tb.map (·.1)++u) (S.nm::acc) K)∧
  (g=false→aJ P cx ops draw n0 rest (i+1) (dA dst (.iff false S.x) env) box u ((S.reads,[])::acc) K)
end
def ze:Op→Bool
 | .defer _=>true
 |_=>false
def pI (n:Nat) (ops:Array Oper):Bool:=ops.all fun o=>(match o.dst with|some d=>decide (d<n)|none=>true)&& !ze o.op
def dn (n:Nat):Code→Bool
 | .region _ ops draw=>pI n ops&&(!draw||Region.lexB .any ops)
 | .seq a b=>dn n a&&dn n b
 | .cond _ a b=>dn n a&&dn n b
 | .block _ a=>dn n a
 | .loop a=>dn n a
 |_=>true
def gX (next:LS→Prop) (Q:Exit→LS→Prop):Exit→LS→Prop
 | .normal,A=>next A
 |e,A=>Q e A
def ja (id:Nat) (Q:Exit→LS→Prop):Exit→LS→Prop
 | .exit id',A=>if id'=id then Q .normal A else Q (.exit id') A
 |e,A=>Q e A
def lift (Q:Exit→LS→Prop):Exit→AS→Prop:=fun e A=>∃L:LS,A=L.toAS∧Q e L
def jL (P:Program) (cx:Cx) (c:Code) (Q:Exit→LS→Prop) (A:LS):Prop:=AWp P cx (.loop c) (lift Q) A.toAS
def aY (P:Program) (cx:Cx) (c:Code) (Q:Exit→LS→Prop) (A:LS):Prop:=AWp P cx c (lift Q) A.toAS
def W (P:Program) (cx:Cx):Code→(Exit→LS→Prop)→LS→Prop
 | .skip,Q,A=>Q .normal A
 | .label _,Q,A=>Q .normal A
 | .ret,Q,A=>Q .ret A
 | .exit id,Q,A=>Q (.exit id) A
 | .region _ ops draw,Q,A=>aJ P cx ops draw A.next ops.toList 0 A.env A.box [] [] fun env box=>∃m,A.next+8*ops.size≤m∧Q .normal ⟨env,box,m⟩
 | .seq a b,Q,A=>W P cx a (gX (fun A=>W P cx b Q A) Q) A
 | .cond c a b,Q,A=>match aI A.env c with
   | .v (.bool t)=>(t=true→W P cx a Q A)∧(t=false→W P cx b Q A)
   | .bit p=>(p→W P cx a Q A)∧W P cx b Q A
   |_=>False
 | .block id c,Q,A=>W P cx c (ja id Q) A
 | .loop c,Q,A=>jL P cx c Q A
 |c,Q,A=>aY P cx c Q A
section
variable {P:Program} {cx:Cx}
theorem RepA.bit' {ι:Nat→Option Nat} {M:Nat→Prop} {w:World} {v:Value} {p:Prop} (h:RepA ι M w v (.bit p)):∃b:Bool,v= .bool b∧(b=true→p):=by
 cases h with
 |d h=>cases h
 |bit h=>exact⟨_,rfl,h⟩
theorem pJ {ops:Array Oper} {draw:Bool} {n0:Nat} {K:Env→ay→Prop} (hd:pI cx.N ops=true):∀(l:List Oper) (i:Nat) (env:Env) (box:ay) (u:List Nat) (acc:List (List Nat×List Nat)),(∀j,l[j]? =ops[i+j]?)→(∀b,b∈u→b<n0+8*i)→i+l.length=ops.size→aJ P cx ops draw n0 l i env box u acc K→
 ∃rs env' box' u',Chain P cx ops l (bB env box n0 u) rs (bB env' box' n0 u')∧(draw=true→mI ops ((rs.map fun r=>r.S.nm).reverse++acc))∧(∀b,b∈u'→b<n0+8*ops.size)∧K env' box'
 | [],i,env,box,u,acc,hl,hu,hn,h=>by
   exact⟨[],env,box,u,.nil _,by simpa using h.1,by simpa[←hn] using hu,h.2⟩
 |o::l,i,env,box,u,acc,hl,hu,hn,h=>by
  have h0:ops[i]? =some o:=by simpa using(hl 0).symm
  have hl':∀j,l[j]? =ops[i+1+j]? :=fun j=>by have:=hl (j+1);simpa[Nat.add_assoc,Nat.add_comm 1 j] using this
  have hdst:∀d,o.dst=some d→d<cx.N:=fun d hd'=>by
   have:=Array.all_eq_true_iff_forall_mem.1 hd o (Array.mem_of_getElem? h0)
   simp only[Bool.and_eq_true] at this
   simpa[hd'] using this.1
  have hnd:∀c,o.op≠ .defer c:=fun c hc=>by
   have:=Array.all_eq_true_iff_forall_mem.1 hd o (Array.mem_of_getElem? h0)
   simp[hc,ze] at this
  have hn':i+1+l.length=ops.size:=by simp at hn;omega
  simp only[aJ] at h
  cases hg:o.guard with
  |none=>
   simp only[hg] at h
   obtain⟨S,h1,h2,h3,h4,h5⟩:=CP h
   have hu':∀b,b∈S.tb.map (·.1)++u→b<n0+8*(i+1):=by
    intro b hb
    rcases List.mem_append.1 hb with hb|hb
    ·obtain⟨p,hp,rfl⟩:=List.mem_map.1 hb
     have:=List.all_eq_true.1 h4 p hp
     simp at this;omega
    ·have:=hu b hb;omega
   obtain⟨rs,env',box',u',g1,g2,g3,g4⟩:=pJ hd l (i+1) _ _ _ _ hl' hu' hn' h5
   refine⟨⟨true,S⟩::rs,env',box',u',.cons ⟨by unfold j6;simp only[hg],fun _=>by rw[kv];exact h1 trivial,(by intro h;cases h),h2,?_,hdst,hnd⟩ (by rw[qZ];exact g1),?_,g3,g4⟩
   ·intro b x hb
    rcases h3 b x hb with h|hr
    ·exact .inl h
    ·refine .inr fun hused=> ?_
     rcases hused with h|h
     ·omega
     ·have:=hu _ h;omega
   ·intro hdr
    have:=g2 hdr
    simpa using this
  |some jw=>
   obtain⟨j,want⟩:=jw
   simp only[hg] at h
   split at h
   ·rename_i d hdo
    split at h
    ·rename_i g hgo
     have hG:j6 ops o (bB env box n0 u).env g:=by
      unfold j6
      simp only[hg]
      unfold guardOf at hgo
      split at hgo
      ·rename_i b hb
       injection hgo with hgo
       exact⟨d,true,b,hdo,.inl ⟨hb,rfl⟩,by rw[←hgo];cases want<;>cases b<;>rfl⟩
      ·rename_i c b hb
       injection hgo with hgo
       exact⟨d,c,b,hdo,.inr hb,by rw[←hgo];cases want<;>cases b<;>rfl⟩
      ·cases hgo
     rcases h with⟨hgf,h⟩|h
     ·subst hgf
      obtain⟨rs,env',box',u',g1,g2,g3,g4⟩:=pJ hd l (i+1) _ _ _ _ hl' (fun b hb=>by have:=hu b hb;omega) hn' h
      refine⟨⟨false,⟨[],.iff false (.v (.bool false)),[]⟩⟩::rs,env',box',u',.cons ⟨hG,(by intro h;cases h),fun _=>⟨by simp,fun ι M w=> .iffF _⟩,by simp,by simp,hdst,hnd⟩ (by rw[qZ];exact g1),?_,g3,g4⟩
      intro hdr
      have:=g2 hdr
      simpa[OpS.nm,OpS.reads,OpS.turns] using this
     obtain⟨⟨fp,x,tb⟩,h1,h2,h3,h4,h5⟩:=CP h
     simp only at h4 h5
     have hlt:∀p,p∈tb→p.1<n0+8*i+8:=fun p hp=>by
      have:=List.all_eq_true.1 h4 p hp
      simpa using this
     have hu2:∀b,b∈tb.map (·.1)++u→b<n0+8*(i+1):=fun b hb=>by
      rcases List.mem_append.1 hb with hb|hb
      ·obtain⟨p,hp,rfl⟩:=List.mem_map.1 hb
       have:=hlt p hp;omega
      ·have:=hu b hb;omega
     have hfresh:∀b x,(b,some x)∈tb→(∃y,(b,y)∈fp)∨¬(bB env box n0 u).used b:=fun b x hb=>by
      rcases h3 b x hb with h|hr
      ·exact .inl h
      ·refine .inr fun hused=> ?_
       rcases hused with h|h
       ·omega
       ·have:=hu _ h;omega
     split at h5
     ·rename_i hnone
      have h4':∀p,p∈tb→p.2=none:=fun p hp=>by
       have:=List.all_eq_true.1 hnone p hp
       simpa using this
      obtain⟨rs,env',box',u',g1,g2,g3,g4⟩:=pJ hd l (i+1) _ _ _ _ hl' hu2 hn' h5
      refine⟨⟨g,⟨fp,.iff g x,tb⟩⟩::rs,env',box',u',.cons ⟨hG,?_,?_,h2,hfresh,hdst,hnd⟩ (by rw[qZ];exact g1),?_,g3,g4⟩
      ·intro hon
       rw[kv]
       have hon:g=true:=hon
       subst hon
       intro ι box used a w q1 q2 q3 q4 q5 K' Q' q6
       exact h1 rfl ι box used a w q1 q2 q3 q4 q5 K' Q' fun v ι' w' s1 s2=>q6 v ι' w' s1 (.iffT s2)
      ·intro hon
       have hon:g=false:=hon
       subst hon
       exact⟨h4',fun ι M w=> .iffF _⟩
      ·intro hdr
       have:=g2 hdr
       simpa[OpS.nm,OpS.reads,OpS.turns] using this
     ·cases g with
      |true=>
       obtain⟨rs,env',box',u',g1,g2,g3,g4⟩:=pJ hd l (i+1) _ _ _ _ hl' hu2 hn' (h5.1 rfl)
       refine⟨⟨true,⟨fp,x,tb⟩⟩::rs,env',box',u',.cons ⟨hG,fun _=>by rw[kv];exact h1 rfl,(by intro h;cases h),h2,hfresh,hdst,hnd⟩ (by rw[qZ];exact g1),?_,g3,g4⟩
       intro hdr
       have:=g2 hdr
       simpa[OpS.nm,OpS.reads,OpS.turns] using this
      |false=>
       obtain⟨rs,env',box',u',g1,g2,g3,g4⟩:=pJ hd l (i+1) _ _ _ _ hl' (fun b hb=>by have:=hu b hb;omega) hn' (h5.2 rfl)
       refine⟨⟨false,⟨fp,.iff false x,[]⟩⟩::rs,env',box',u',.cons ⟨hG,(by intro h;cases h),fun _=>⟨by simp,fun ι M w=> .iffF _⟩,h2,by simp,hdst,hnd⟩ (by rw[qZ];exact g1),?_,g3,g4⟩
       intro hdr
       have:=g2 hdr
       simpa[OpS.nm,OpS.reads,OpS.turns] using this
    ·exact h.elim
   ·exact h.elim
theorem nX (hm:P.follows .mixedOrders=true):∀(c:Code) (Q:Exit→LS→Prop) (A:LS),dn cx.N c=true→W P cx c Q A→AWp P cx c (lift Q) A.toAS:=by
 intro c
 induction c with
 |skip=>intro Q A _ h;exact NQ ⟨A,rfl,h⟩
 |label l=>intro Q A _ h;exact NR ⟨A,rfl,h⟩
 |ret=>intro Q A _ h;exact NT ⟨A,rfl,h⟩
 |exit id=>intro Q A _ h;exact NS ⟨A,rfl,h⟩
 |region id ops draw=>
  intro Q A hok h
  simp only[dn,Bool.and_eq_true] at hok
  obtain⟨rs,env',box',u',h1,h2,h3,m,hm4,h4⟩:=pJ hok.1 ops.toList 0 A.env A.box [] [] ai ai ai h
  have hend:∀b,b<A.next∨b∈u'→b<A.next+8*ops.size:=by
   rintro b (hb|hb)
   ·omega
   ·exact h3 b hb
  have hQ:∀ι a w,Sat cx ι (bB env' box' A.next u') a w→∃ι' A',Sat cx ι' A' a w∧lift Q .normal A':=fun ι a w hs=>
   ⟨ι,bB env' box' m [],hs.ent ⟨fun _=> .inr rfl,fun _ _ h=>h,fun b hb=> .inl (Nat.lt_of_lt_of_le (hend b hb) hm4)⟩,⟨⟨env',box',m⟩,rfl,h4⟩⟩
  have main:AWp P cx (.region id ops draw) (fun e A'=>e= .normal∧A'=bB env' box' A.next u') A.toAS:=by
   cases draw with
   |false=>exact Gs h1 ⟨rfl,rfl⟩
   |true=>
    refine N9 hm (by simpa using hok.2) h1 ?_ ⟨rfl,rfl⟩
    have:=h2 rfl
    unfold mI at this
    simpa using this
  intro ι a w hs
  refine wpIn_mono (main ι a w hs) ?_
  rintro e a' w' ⟨ι',A',h5,rfl,rfl⟩
  exact hQ _ _ _ h5
 |seq x y ihx ihy=>
  intro Q A hok h
  simp only[dn,Bool.and_eq_true] at hok
  refine yN ((ihx _ A hok.1 h).mono ?_)
  rintro e A' ⟨L,rfl,hL⟩
  cases e with
  |normal=>exact ihy _ L hok.2 hL
  |_=>exact⟨L,rfl,hL⟩
 |cond c x y ihx ihy=>
  intro Q A hok h
  simp only[dn,Bool.and_eq_true] at hok
  simp only[W] at h
  split at h
  ·rename_i t ht
   exact Gl (A:=A.toAS) (by rw[kv];exact ht) (fun hb=>ihx _ _ hok.1 (h.1 hb)) (fun hb=>ihy _ _ hok.2 (h.2 hb))
  ·rename_i p ht
   intro ι ac w hs
   have hv:=hs.eval c
   rw[kv,ht] at hv
   obtain⟨b,hb,hp⟩:=hv.bit'
   exact wpIn_cond_split hb (fun e=>ihx _ _ hok.1 (h.1 (hp e)) ι ac w hs) (fun _=>ihy _ _ hok.2 h.2 ι ac w hs)
  ·exact h.elim
 |block id c ih=>
  intro Q A hok h
  simp only[dn] at hok
  refine Gj ((ih _ A hok h).mono ?_)
  rintro e A' ⟨L,rfl,hL⟩
  cases e with
  |exit id'=>
   simp only[ja] at hL
   simp only[yO]
   split<;>rename_i hh<;>simp only[hh,if_true,if_false] at hL<;>exact⟨L,rfl,hL⟩
  |_=>exact⟨L,rfl,hL⟩
 |loop c _=>intro Q A _ h;exact h
 |rangeFunc f ps a b _ _=>intro Q A _ h;exact h
 |scope c _=>intro Q A _ h;exact h
 |goto l=>intro Q A _ h;exact h
 |refuse s=>intro Q A _ h;exact h
inductive All2 {α β:Type} (R:α→β→Prop):List α→List β→Prop
 |nil:All2 R [] []
 |cons {a:α} {b:β} {l:List α} {m:List β} (h:R a b) (t:All2 R l m):All2 R (a::l) (b::m)
theorem All2.length {α β:Type} {R:α→β→Prop} {l:List α} {m:List β} (h:All2 R l m):l.length=m.length:=by
 induction h with
 |nil=>rfl
 |cons _ _ ih=>simp[ih]
theorem Hl {fp:List (Nat×Bx)} {l xs:List AV} (h:All2 (Frz fp) l xs):∀(i:Nat) (a b:AV),l[i]? =some a→xs[i]? =some b→Frz fp a b:=by
 induction h with
 |nil=>intro i a b h;simp at h
 |cons h _ ih=>
  intro i a b ha hb
  rcases i with _|i
  ·simp at ha hb;subst ha hb;exact h
  ·exact ih i a b (by simpa using ha) (by simpa using hb)
theorem Pt {env:Env} {box:ay} {nm:Nat} {f:FuncId} {l:List AV} {o:Oper} {K:OpS→Prop} {xs:List AV} {x:AV} (fp:List (Nat×Bx)) (hc:bn P f) (hF:Fun P f xs x)
 (hfp:∀b x,(b,x)∈fp→ah box b=some x) (hfz:All2 (Frz fp) l xs) {hyp:Prop} (hK:K ⟨fp,x,kills fp⟩):bW P cx hyp env box nm f l o K:=
 fun ho=>⟨_,fun _=>GV ho hc hF hfz.length (Hl hfz),hfp,by intro b x hb;simp[kills] at hb,hK⟩
theorem bR {env:Env} {box:ay} {nm:Nat} {f:FuncId} {l:List AV} {o:Oper} {K:OpS→Prop} {x:AV} {hyp:Prop} (hc:bn P f) (hF:Fun P f l x)
 (hd:l.all AV.isData=true) (hK:K ⟨[],x,[]⟩):bW P cx hyp env box nm f l o K:=by
 refine Pt [] hc hF ai ?_ hK
 have:∀l:List AV,l.all AV.isData=true→All2 (Frz []) l l:=by
  intro l
  induction l with
  |nil=>intro _;exact .nil
  |cons a l ih=>
   intro h
   rw[List.all_cons,Bool.and_eq_true] at h
   exact .cons (.data h.1) (ih h.2)
 exact this l hd
theorem Pv {f:FuncId} {fn:Func} (hf:P.funcs[f]? =some fn) (hn:(fn.name== "runtime.NumGoroutine")=false) (hb:fn.body.isNone=false):bn P f:=by
 intro vs w
 simp only[callFunc,Sem.run_bind,run_program,Result.andThen_ok,hf,hn,hb,Bool.false_eq_true,if_false,Sem.run_pure]
theorem rq {b:Nat} {x:Bx}:∀ {box:ay},ah box b=some x→∃r,(b,r)∈box
 | [],h=>by simp[ah,ax] at h
 |(c,r)::l,h=>by
  by_cases hb:b=c
  ·subst hb;exact⟨r,by simp⟩
  ·simp only[ah,ax,hb,if_false] at h
   obtain⟨r',h'⟩:=rq (box:=l) h
   exact⟨r',List.mem_cons_of_mem _ h'⟩
def jM (p:Nat→Bool) (r:Nat→Nat) (env:Env):Env→Prop
 | []=>True
 |(t,x)::l=>(bf env t=x.ren r∧x.names p=true)∧jM p r env l
def gY (p:Nat→Bool) (r:Nat→Nat) (box:ay):ay→Prop
 | []=>True
 |(b,some x)::l=>(ah box (r b)=some ⟨x.t,x.cs.map (AV.ren r)⟩∧p b=true∧x.cs.all (AV.names p)=true)∧gY p r box l
 |(_,none)::l=>gY p r box l
def xe (r:Nat→Nat):ay→Prop
 | []=>True
 |(b,_)::l=>(l.all (fun q=>decide (r b=r q.1→b=q.1))=true)∧xe r l
def LCut (cx:Cx) (r:Nat→Nat) (A A':LS):Prop:=
 jM (fun b=>decide (b<A'.next)) r A.env A'.env∧gY (fun b=>decide (b<A'.next)) r A.box A'.box∧xe r A'.box∧∀b g,cx.F b=some g→b<A'.next∧r b=b
theorem Hm {p:Nat→Bool} {r:Nat→Nat} {env:Env}:∀ {l:Env},jM p r env l→∀t,bf l t= .any∨(bf env t=(bf l t).ren r∧(bf l t).names p=true)
 | [],_,t=> .inl rfl
 |(s,x)::l,h,t=>by
  simp only[bf]
  by_cases ht:t=s
  ·subst ht;simp only[if_true];exact .inr h.1
  ·simp only[ht,if_false];exact Hm h.2 t
theorem CQ {p:Nat→Bool} {r:Nat→Nat} {box:ay}:∀ {l:ay},gY p r box l→∀b x,ah l b=some x→ah box (r b)=some ⟨x.t,x.cs.map (AV.ren r)⟩∧p b=true∧∀y,y∈x.cs→y.names p=true
 | [],_,b,x,hx=>by simp[ah,ax] at hx
 |(c,some y)::l,h,b,x,hx=>by
  by_cases hb:b=c
  ·subst hb
   simp[ah,ax] at hx
   subst hx
   exact⟨h.1.1,h.1.2.1,List.all_eq_true.1 h.1.2.2⟩
  ·simp only[ah,ax,hb,if_false] at hx
   exact CQ h.2 b x hx
 |(c,none)::l,h,b,x,hx=>by
  by_cases hb:b=c
  ·subst hb;simp[ah,ax] at hx
  ·simp only[ah,ax,hb,if_false] at hx
   exact CQ (l:=l) h b x hx
theorem Ho {r:Nat→Nat}:∀ {l:ay},xe r l→∀b b' x x',(b,x)∈l→(b',x')∈l→r b=r b'→b=b'
 |(c,y)::l,h,b,b',x,x',h1,h2,he=>by
  have key:∀q,q∈l→r c=r q.1→c=q.1:=fun q hq=>by
   have:=List.all_eq_true.1 h.1 q hq
   exact of_decide_eq_true this
  rcases List.mem_cons.1 h1 with g1|g1
  ·rcases List.mem_cons.1 h2 with g2|g2
   ·injection g1 with e1 _;injection g2 with e2 _;rw[e1,e2]
   ·injection g1 with e1 _;subst e1;exact key (b',x') g2 he
  ·rcases List.mem_cons.1 h2 with g2|g2
   ·injection g2 with e2 _;subst e2;exact(key (b,x) g1 he.symm).symm
   ·exact Ho h.2 b b' x x' g1 g2 he
theorem LCut.cut {r:Nat→Nat} {A A':LS} (h:LCut cx r A A'):Cut cx (fun b=>decide (b<A'.next)) r A.toAS A'.toAS where
 env:=Hm h.1
 box:=CQ h.2.1
 inj:=fun b b' x x' h1 h2 he=>by
  obtain⟨r1,hr1⟩:=rq h1
  obtain⟨r2,hr2⟩:=rq h2
  exact Ho h.2.2.1 b b' _ _ hr1 hr2 he
 used:=fun b hb=> .inl (by simpa using hb)
 fix:=fun b g hb=>⟨by simpa using(h.2.2.2 b g hb).1,(h.2.2.2 b g hb).2⟩
theorem iD {σ:Type} {c:Code} {Q:Exit→LS→Prop} {A:LS} (hm:P.follows .mixedOrders=true) (I:σ→LS) (μ:σ→Nat) (r:Nat→Nat) (s₀:σ) (hok:dn cx.N c=true) (h₀:LCut cx r A (I s₀))
 (round:∀s,W P cx c (gX (fun A'=>∃(s':σ) (r':Nat→Nat),LCut cx r' A' (I s')∧μ s'<μ s) Q) (I s)):jL P cx c Q A:=by
 refine Gm (fun s=>(I s).toAS) μ _ r s₀ h₀.cut fun s=> ?_
 refine(nX hm c _ (I s) hok (round s)).mono ?_
 rintro e A' ⟨L,rfl,hL⟩
 cases e with
 |normal=>
  obtain⟨s',r',h1,h2⟩:=hL
  exact⟨s',_,r',h1.cut,h2⟩
 |_=>exact⟨L,rfl,hL⟩
def dO (P:Program) (env:Env) (box:ay) (r:ResultVar) (K:AV→Prop):Prop:=
 match r with
 | .tmp t=>K (bf env t)
 | .cell a t=>match tv P t,bf env a with
   |some i,.ptr b off=>match ah box b with
    |some bx=>match eD i.agg i.size off bx.cs with
     |some y=>bx.cs≠ []∧K y
     |none=>False
    |none=>False
   |_,_=>False
def dx (R:AV→AV→Prop):List AV→List AV→Prop
 | [],[]=>True
 |x::l,y::m=>R x y∧dx R l m
 |_,_=>False
def fz (box:ay):Nat→AV→AV→Prop
 |0,_,_=>False
 |d+1,x,y=>match x,y with
  | .v a,.v b=>a=b
  | .sl f k l,.sl f' k' l'=>k=k'∧l=l'∧(f'=true→f=true)
  | .v (.slice none 0 0),.sl _ _ l=>l=[]
  | .pp l,.pp l'=>l=l'
  | .osl b k off n,.sl f' k' l'=>(f'=false∧k=k'∧0<k∧n=l'.length∧(∀r,r∈l'→r.length=k))∧∃bx,ah box b=some bx∧off+n*k≤bx.cs.length∧(((bx.cs.drop off).take (n*k)=l'.flatten∧∀r,r∈l'→∀y,y∈r→y.isData=true)∨dx (fz box d) ((bx.cs.drop off).take (n*k)) l'.flatten)
  | .ptr b off,.pp l=>l≠ []∧∃bx,ah box b=some bx∧dx (fz box d) (bx.cs.drop off) l
  | .fn f l m,.fn f' l' m'=>f=f'∧dx (fz box d) l l'∧dx (fz box d) m m'
  | .agg l,.agg m=>dx (fz box d) l m
  | .tup l,.tup m=>dx (fz box d) l m
  |_,_=>False
def iE (box:ay) (x y:AV):Prop:=fz box 6 x y
def jb (P:Program) (rs:Array ResultVar) (x:AV):Exit→LS→Prop
 | .normal,A| .ret,A=>(match rs.toList,x with
   | [],.tup []=>True
   | [r],x=>dO P A.env A.box r fun y=>iE A.box y x
   | [r,s],.tup [x,x']=>dO P A.env A.box r fun y=>iE A.box y x∧dO P A.env A.box s fun y=>iE A.box y x'
   | [r,s,t],.tup [x,x',x'']=>dO P A.env A.box r fun y=>iE A.box y x∧dO P A.env A.box s fun y=>iE A.box y x'∧dO P A.env A.box t fun y=>iE A.box y x''
   |_,_=>False)
 |_,_=>False
theorem kX {env:Env} {box:ay} {n:Nat} {r:ResultVar} {K:AV→Prop} (h:dO P env box r K):∃y,ResIs P (bB env box n []) r y∧K y:=by
 unfold dO at h
 split at h
 ·rename_i t;exact⟨_,.tmp t,h⟩
 ·rename_i a t
  split at h
  ·rename_i i b off hi ha
   split at h
   ·rename_i bx hb
    split at h
    ·rename_i y hy
     exact⟨y,.cell (A:=bB env box n []) ha hb h.1 (qY hi) (fC hi) hy,h.2⟩
    ·exact h.elim
   ·exact h.elim
  ·exact h.elim
def bY (box:ay):ay→List (Nat×Bx)
 | []=>[]
 |(b,_)::l=>match ah box b with
  |some x=>(b,x)::bY box l
  |none=>bY box l
theorem nY {box:ay} {b:Nat} {x:Bx}:∀ {l:ay},(b,x)∈bY box l→ah box b=some x
 | [],h=>by simp[bY] at h
 |(c,r)::l,h=>by
  unfold bY at h
  split at h
  ·rename_i y hy
   rcases List.mem_cons.1 h with h|h
   ·injection h with h1 h2;subst h1 h2;exact hy
   ·exact nY h
  ·exact nY h
theorem CR {box:ay} {b:Nat} {x:Bx} (hx:ah box b=some x):∀ {l:ay} {r:Option Bx},(b,r)∈l→(b,x)∈bY box l
 |(c,r')::l,r,h=>by
  rcases List.mem_cons.1 h with h|h
  ·injection h with h1 h2
   subst h1
   simp[bY,hx]
  ·have:=CR hx h
   unfold bY
   split
   ·exact List.mem_cons_of_mem _ this
   ·exact this
theorem iF {R:AV→AV→Prop}:∀ {l m:List AV},dx R l m→l.length=m.length∧∀(i:Nat) (x y:AV),l[i]? =some x→m[i]? =some y→R x y
 | [],[],_=>⟨rfl,by simp⟩
 |x::l,y::m,h=>by
  obtain⟨h1,h2⟩:=iF h.2
  refine⟨by simp[h1],fun i a b ha hb=> ?_⟩
  rcases i with _|i
  ·simp at ha hb;subst ha hb;exact h.1
  ·exact h2 i a b (by simpa using ha) (by simpa using hb)
 | [],_::_,h=>h.elim
 |_::_,[],h=>h.elim
theorem kY {box:ay}:∀(d:Nat) {x y:AV},fz box d x y→Frz (bY box box) x y
 |0,_,_,h=>h.elim
 |d+1,x,y,h=>by
  unfold fz at h
  split at h
  ·subst h;exact .data ai
  ·rename_i f k l f' k' l'
   obtain⟨rfl,rfl,h⟩:=h
   cases f' with
   |true=>rw[h rfl];exact .data ai
   |false=>cases f with
    |true=>exact .less
    |false=>exact .data ai
  ·subst h;exact .nil
  ·subst h;exact .data ai
  ·rename_i b k off n f' k' l'
   obtain⟨⟨rfl,rfl,h0,hn,hk⟩,bx,hb,hle,h⟩:=h
   obtain⟨r,hr⟩:=rq hb
   refine .osl (CR hb hr) hn hk h0 hle ?_
   rcases h with⟨h1,h2⟩|h
   ·intro i x y hx hy
    rw[h1,hy] at hx
    injection hx with hx
    subst hx
    have hm:=List.mem_of_getElem? hy
    obtain⟨r,hr,hyr⟩:=List.mem_flatten.1 hm
    exact .data (h2 r hr y hyr)
   ·exact fun i x y hx hy=>kY d ((iF h).2 i x y hx hy)
  ·rename_i b off l
   obtain⟨hl,bx,hb,h⟩:=h
   obtain⟨r,hr⟩:=rq hb
   obtain⟨h1,h2⟩:=iF h
   refine .ptr (CR hb hr) ?_ fun i x y hx hy=>kY d (h2 i x y hx hy)
   have h3:l.length≠0:=by simpa using hl
   simp at h1
   omega
  ·obtain⟨rfl,h1,h2⟩:=h
   exact .fn (iF h1).1 (iF h2).1 (fun i x y hx hy=>kY d ((iF h1).2 i x y hx hy)) (fun i x y hx hy=>kY d ((iF h2).2 i x y hx hy))
  ·exact .agg (iF h).1 fun i x y hx hy=>kY d ((iF h).2 i x y hx hy)
  ·exact .tup (iF h).1 fun i x y hx hy=>kY d ((iF h).2 i x y hx hy)
  ·exact h.elim
theorem ru {box:ay} {x y:AV} (h:iE box x y):Frz (bY box box) x y:=kY _ h
def bQ (box:ay):List Nat→ay
 | []=>[]
 |b::l=>(b,ah box b)::bQ box l
theorem xg {box:ay} {b:Nat} {x:Bx}:∀ {ns:List Nat},ah (bQ box ns) b=some x→ah box b=some x
 | [],h=>by simp[bQ,ah,ax] at h
 |c::l,h=>by
  simp only[bQ,ah,ax] at h
  by_cases hb:b=c
  ·subst hb;simpa[ah] using h
  ·rw[if_neg hb] at h;exact xg (ns:=l) h
theorem Pw {env:Env} {box:ay} {nm:Nat} {f:FuncId} {l:List AV} {o:Oper} {K:OpS→Prop} {xs:List AV} {x:AV} {hyp:Prop} (ns:List Nat) (hc:bn P f) (hF:Fun P f xs x)
 (hfz:dx (fz (bQ box ns) 6) l xs) (hK:K ⟨bY (bQ box ns) (bQ box ns),x,kills (bY (bQ box ns) (bQ box ns))⟩):bW P cx hyp env box nm f l o K:=
 fun ho=>⟨_,fun _=>GV ho hc hF (iF hfz).1 fun i x y hx hy=>kY _ ((iF hfz).2 i x y hx hy),fun b x h=>xg (nY h),by intro b x hb;simp[kills] at hb,hK⟩
theorem Px {env:Env} {box:ay} {nm:Nat} {f:FuncId} {l:List AV} {o:Oper} {K:OpS→Prop} {xs:List AV} {x:AV} {hyp:Prop} (ns:List Nat) (hc:bn P f) (hF:Fun P f xs x) (hx:x.flat0=true)
 (hfz:dx (fz (bQ box ns) 6) l xs) (hK:K ⟨bY (bQ box ns) (bQ box ns),x,[]⟩):bW P cx hyp env box nm f l o K:=
 fun ho=>⟨_,fun _=>CJ ho hc hF hx (iF hfz).1 fun i x y hx hy=>kY _ ((iF hfz).2 i x y hx hy),fun b x h=>xg (nY h),by simp,hK⟩
theorem xh {rs:Array ResultVar} {x:AV} {A:LS} (h:jb P rs x .ret A):∃y fp,Ress P A.toAS rs y∧(∀b x,(b,x)∈fp→A.toAS.box b=some x)∧Frz fp y x:=by
 have hfp:∀b x,(b,x)∈bY A.box A.box→A.toAS.box b=some x:=fun b x h=>nY h
 have hrs:∀l,rs.toList=l→rs=l.toArray:=fun l h=>by rw[←h]
 simp only[jb] at h
 split at h
 ·rename_i h1
  rw[hrs _ h1]
  exact⟨_,[],.none,by simp,.tup rfl ai⟩
 ·rename_i r x h1
  rw[hrs _ h1]
  obtain⟨y,h2,h3⟩:=kX (n:=A.next) h
  exact⟨y,_,.one h2,hfp,ru h3⟩
 ·rename_i r s x x' h1
  rw[hrs _ h1]
  obtain⟨y,h2,h3,h4⟩:=kX (n:=A.next) h
  obtain⟨y',h2',h3'⟩:=kX (n:=A.next) h4
  refine⟨_,_,.two h2 h2',hfp,.tup rfl fun i a b ha hb=> ?_⟩
  rcases i with _|_|i
  ·simp at ha hb;subst ha hb;exact ru h3
  ·simp at ha hb;subst ha hb;exact ru h3'
  ·simp at hb
 ·rename_i r s t x x' x'' h1
  rw[hrs _ h1]
  obtain⟨y,h2,h3,h4⟩:=kX (n:=A.next) h
  obtain⟨y',h2',h3',h4'⟩:=kX (n:=A.next) h4
  obtain⟨y'',h2'',h3''⟩:=kX (n:=A.next) h4'
  refine⟨_,_,.three h2 h2' h2'',hfp,.tup rfl fun i a b ha hb=> ?_⟩
  rcases i with _|_|_|i
  ·simp at ha hb;subst ha hb;exact ru h3
  ·simp at ha hb;subst ha hb;exact ru h3'
  ·simp at ha hb;subst ha hb;exact ru h3''
  ·simp at hb
 ·exact h.elim
def dP:List AV→Nat→Env
 | [],_=>[]
 |x::l,i=>(i,x)::dP l (i+1)
theorem uf:∀(l:List AV) (i t:Nat),bf (dP l i) t=if t<i then .any else l.getD (t-i) .any
 | [],i,t=>by simp[dP,bf]
 |x::l,i,t=>by
  simp only[dP,bf]
  by_cases h:t=i
  ·subst h;simp
  ·rw[if_neg h,uf l (i+1) t]
   by_cases h1:t<i
   ·simp[h1,show t<i+1 by omega]
   ·obtain⟨m,rfl⟩:∃m,t=i+1+m:=⟨t-i-1,by omega⟩
    rw[if_neg byOmega,if_neg byOmega,show i+1+m-i=m+1 by omega,show i+1+m-(i+1)=m by omega]
    rfl
theorem Py {f:FuncId} {fn:Func} {c:Code} {args:List AV} {x:AV} (hm:P.follows .mixedOrders=true) (hf:P.funcs[f]? =some fn) (hb:fn.body=some c) (hn:args.length≤fn.ntmps) (hok:dn fn.ntmps c=true)
 (h:∀cx:Cx,cx.N=fn.ntmps→cx.R=none→cx.F=(fun _=>none)→args.all AV.lens=true→W P cx c (jb P fn.results x) ⟨dP args 0,[],0⟩):Fun P f args x:=by
 refine G6 hf hb hn fun cx hN hR hF hL=> ?_
 have:=nX (cx:=cx) hm c _ _ (by rw[hN];exact hok) (h cx hN hR hF hL)
 have he:(⟨jK args,fun _=>none,fun _=>False⟩:AS)=LS.toAS ⟨dP args 0,[],0⟩:=by
  unfold LS.toAS bB
  congr 1
  ·funext t
   rw[uf]
   simp[jK]
  ·funext b
   simp
 rw[he]
 refine this.mono ?_
 rintro e A ⟨L,rfl,hL⟩
 cases e with
 |normal=>exact xh hL
 |ret=>exact xh hL
 |_=>exact hL.elim
end
section
variable {P:Program} {cx:Cx}
@[congr] theorem abM {hyp hyp':Prop} {env:Env} {box box':ay} {nm:Nat} {f:FuncId} {l l':List AV} {o:Oper} {K:OpS→Prop} (h:l=l') (hb:box=box') (hh:hyp=hyp'):bW P cx hyp env box nm f l o K=bW P cx hyp' env box' nm f l' o K:=by rw[h,hb,hh]
@[congr] theorem abN {hyp:Prop} {env env':Env} {box box':ay} {nm:Nat} {o:Oper} {K:OpS→Prop} (h:env=env') (hb:box=box'):wY P cx hyp env box nm o K=wY P cx hyp env' box' nm o K:=by rw[h,hb]
@[congr] theorem abO {c:Code} {Q:Exit→LS→Prop} {A A':LS} (h:A=A'):jL P cx c Q A=jL P cx c Q A':=by rw[h]
@[congr] theorem abP {c:Code} {Q:Exit→LS→Prop} {A A':LS} (h:A=A'):aY P cx c Q A=aY P cx c Q A':=by rw[h]
@[congr] theorem abQ {ops:Array Oper} {acc acc':List (List Nat×List Nat)} (h:acc=acc'):mI ops acc=mI ops acc':=by rw[h]
end
end Go.Proofs.YtlikpcpllahalaaGreat.V
