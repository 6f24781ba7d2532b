/- Parts of the proof. -/
import Derived.Test.YtlikpcpllahalaaGreatG1
import Derived.Orders
import Derived.Still
set_option linter.unusedSimpArgs false
set_option linter.unusedVariables false
namespace Go.Proofs.YtlikpcpllahalaaGreat.V
open Go.RowKit
set_option maxRecDepth 100000
section
structure OpS where
 fp:List (Nat×Bx)
 x:AV
 tb:List (Nat×Option Bx)
def ax (box:Nat→Option Bx):List (Nat×Option Bx)→Nat→Option Bx
 | []=>box
 |(b,r)::l=>fun i=>if i=b then r else ax box l i
theorem nT {box:Nat→Option Bx} {b:Nat}:∀ {tb:List (Nat×Option Bx)},(∀r,(b,r)∉tb)→ax box tb b=box b
 | [],_=>rfl
 |(c,r)::l,h=>by
  have h1:b≠c:=by rintro rfl;exact h r ai
  simp only[ax,h1,if_false]
  exact nT fun r hr=>h r (by simp[hr])
theorem Gn {box box':Nat→Option Bx} {b:Nat} (tb:List (Nat×Option Bx)) (h:box b=box' b):ax box tb b=ax box' tb b:=by
 induction tb with
 |nil=>exact h
 |cons p l ih=>
  simp only[ax]
  split
  ·rfl
  ·exact ih
def kV (env:Nat→AV) (dst:Option Tmp) (x:AV):Nat→AV:=
 match dst with
 |some d=>fun t=>if t=d then x else env t
 |none=>env
def AS.app (A:AS) (dst:Option Tmp) (S:OpS):AS:=⟨kV A.env dst S.x,ax A.box S.tb,fun b=>A.used b∨∃r,(b,r)∈S.tb⟩
structure Step (cx:Cx) (ι:Nat→Option Nat) (box:Nat→Option Bx) (used:Nat→Prop) (w:World) (ι':Nat→Option Nat) (box':Nat→Option Bx) (used':Nat→Prop) (w':World):Prop where
 h:HSat cx ι' box' used' w'
 keep:∀v y,RepA ι (Mof cx ι box) w v y→RepA ι' (Mof cx ι' box') w' v y
 oth:Oth w w'
def Yields (P:Program) (cx:Cx) (o:Oper) (ρ:Operand→AV) (S:OpS):Prop:=
 ∀ι box (used:Nat→Prop) (a:Act) w,HSat cx ι box used w→True→(∀b x,(b,x)∈S.fp→box b=some x)→(∀b x,(b,some x)∈S.tb→(∃y,(b,y)∈S.fp)∨¬used b)→(∀y,y∈o.op.operands→RepA ι (Mof cx ι box) w (a.eval y) (ρ y))→
  ∀(K:Act→World→Prop) (Q:Exit→Act→World→Prop),(∀v ι' w',Step cx ι box used w ι' (ax box S.tb) (fun b=>used b∨∃r,(b,r)∈S.tb) w'→RepA ι' (Mof cx ι' (ax box S.tb)) w' v S.x→K (a.put o.dst v) w')→o.wp P a w K Q
theorem Yields.congr {P:Program} {cx:Cx} {o:Oper} {ρ ρ':Operand→AV} {S:OpS} (h:Yields P cx o ρ S) (he:∀y,y∈o.op.operands→ρ' y=ρ y):Yields P cx o ρ' S:=
 fun ι box used a w h1 h2 h3 h4 h5=>h ι box used a w h1 h2 h3 h4 fun y hy=>by rw[←he y hy];exact h5 y hy
structure R where
 on:Bool
 S:OpS
def gH (ops:Array Oper) (j:Nat):Option Tmp:=(ops[j]?).bind (·.dst)
def j6 (ops:Array Oper) (o:Oper) (env:Nat→AV) (on:Bool):Prop:=
 match o.guard with
 |none=>on=true
 |some (j,want)=>∃d c b,gH ops j=some d∧((env d= .v (.bool b)∧c=true)∨env d= .iff c (.v (.bool b)))∧on=(c&&(b==want))
structure StepOK (P:Program) (cx:Cx) (ops:Array Oper) (o:Oper) (A:AS) (r:R):Prop where
 g:j6 ops o A.env r.on
 y:r.on=true→Yields P cx o A.eval r.S
 off:r.on=false→(∀p,p∈r.S.tb→p.2=none)∧∀ι M w,RepA ι M w undef r.S.x
 fp:∀b x,(b,x)∈r.S.fp→A.box b=some x
 fresh:∀b x,(b,some x)∈r.S.tb→(∃y,(b,y)∈r.S.fp)∨¬A.used b
 dst:∀d,o.dst=some d→d<cx.N
 nd:∀c,o.op≠ .defer c
section
variable {P:Program} {cx:Cx} {ops:Array Oper} {md:Region.Mode} {Q:Exit→Act→World→Prop}
theorem Act.getD_put {a:Act} {dst:Option Tmp} {v:Value} {t:Nat} (h:∀d,dst=some d→d<a.tmps.size):(a.put dst v).tmps.getD t undef=if dst=some t then v else a.tmps.getD t undef:=by
 cases dst with
 |none=>simp[Act.put]
 |some d=>
  have hd:=h d rfl
  simp only[Act.put,Option.some.injEq,Array.getD_eq_getD_getElem?]
  by_cases e:d=t
  ·subst e;simp[hd]
  ·simp[e]
theorem Act.size_put (a:Act) (dst:Option Tmp) (v:Value):(a.put dst v).tmps.size=a.tmps.size:=by
 cases dst<;>simp[Act.put]
theorem Act.defers_put (a:Act) (dst:Option Tmp) (v:Value):(a.put dst v).defers=a.defers:=by
 cases dst<;>simp[Act.put]
theorem Marks.keep {cx:Cx} {w w':World}:∀ {l:List Deferred},Marks cx w l→Oth w w'→Marks cx w' l
 | [],_,_=>trivial
 |_::_,⟨⟨D,h1,h2,h3,h4⟩,h⟩,ho=>⟨⟨D,h1,h2,ho _ _ h3 rfl,h4⟩,Marks.keep h ho⟩
theorem MarksD.keep {cx:Cx} {w w':World} {l:List Deferred} (h:MarksD cx w l) (ho:Oth w w'):MarksD cx w' l:=
 let ⟨m,n,h1,h2⟩:=h
 ⟨m,n,h1,h2.keep ho⟩
theorem NV {o:Oper} {A:AS} {on:Bool} {ι:Nat→Option Nat} {a:Act} {w:World} (hs:Sat cx ι A a w) (h:j6 ops o A.env on):Region.wanted o (yielded ops a.tmps)=on:=by
 unfold j6 at h
 unfold Region.wanted
 cases hg:o.guard with
 |none=>simp only[hg] at h;simp[h]
 |some jw=>
  obtain⟨j,want⟩:=jw
  simp only[hg] at h
  obtain⟨d,c,b,hd,he,rfl⟩:=h
  have h1:=hs.env d
  have hy:yielded ops a.tmps j=if c then some b else none:=by
   have key:∀v,RepA ι (Mof cx ι A.box) w v (A.env d)→(c=true∧v= .bool b)∨(c=false∧v=undef):=fun v hv=>by
    rcases he with⟨he,rfl⟩|he
    ·rw[he] at hv;exact .inl ⟨rfl,hv.ofV⟩
    ·rw[he] at hv
     cases hv with
     |d h=>cases h
     |iffT h=>exact .inl ⟨rfl,h.ofV⟩
     |iffF=>exact .inr ⟨rfl,rfl⟩
   unfold yielded
   unfold gH at hd
   rw[hd]
   rcases key _ h1 with⟨rfl,hv⟩|⟨rfl,hv⟩
   ·have h3:a.tmps[d]? =some (.bool b):=by
     rw[Array.getD_eq_getD_getElem?] at hv
     cases hx:a.tmps[d]? with
     |none=>rw[hx] at hv;simp[undef] at hv
     |some x=>rw[hx] at hv;simpa using hv
    simp[h3]
   ·have h3:a.tmps[d]? =none∨a.tmps[d]? =some undef:=by
     rw[Array.getD_eq_getD_getElem?] at hv
     cases hx:a.tmps[d]? with
     |none=>exact .inl rfl
     |some x=>rw[hx] at hv;exact .inr (by simpa using hv)
    rcases h3 with h3|h3<;>simp[h3,undef]
  simp only[hy]
  cases c<;>cases b<;>cases want<;>rfl
theorem Sat.put {ι ι':Nat→Option Nat} {A:AS} {a:Act} {w w':World} {dst:Option Tmp} {S:OpS} {v:Value} (hs:Sat cx ι A a w) (hd:∀d,dst=some d→d<cx.N)
 (hst:Step cx ι A.box A.used w ι' (ax A.box S.tb) (fun b=>A.used b∨∃r,(b,r)∈S.tb) w') (hv:RepA ι' (Mof cx ι' (ax A.box S.tb)) w' v S.x):Sat cx ι' (A.app dst S) (a.put dst v) w' where
 h:=hst.h
 size:=by rw[Act.size_put,hs.size]
 defers:=by rw[Act.defers_put];exact hs.defers.keep hst.oth
 env:=fun t=>by
  rw[Act.getD_put (by rw[hs.size];exact hd)]
  have h1:=hst.keep _ _ (hs.env t)
  cases dst with
  |none=>simpa[AS.app,kV] using h1
  |some d=>
   simp only[AS.app,kV,Option.some.injEq]
   by_cases e:d=t
   ·subst e;simp;exact hv
   ·rw[if_neg e,if_neg (fun h=>e h.symm)];exact h1
theorem Step.refl {ι:Nat→Option Nat} {box:Nat→Option Bx} {used:Nat→Prop} {w:World} (h:HSat cx ι box used w):Step cx ι box used w ι box used w:=⟨h,fun _ _ h=>h,Oth.refl _⟩
theorem HSat.used_mono {ι:Nat→Option Nat} {box:Nat→Option Bx} {used used':Nat→Prop} {w:World} (h:HSat cx ι box used w) (hu:∀b,used b→used' b):HSat cx ι box used' w:=
 ⟨h.wi,h.m0,h.fix,fun b g hb=>⟨hu b (h.dom b g hb).1,(h.dom b g hb).2⟩,fun b x hb=>hu b (h.ub b x hb),h.own,h.inj⟩
theorem NW {ι:Nat→Option Nat} {box:Nat→Option Bx} {used:Nat→Prop} {w:World} (hs:HSat cx ι box used w) {tb:List (Nat×Option Bx)} (h:∀p,p∈tb→p.2=none):Step cx ι box used w ι (ax box tb) (fun b=>used b∨∃r,(b,r)∈tb) w:=by
 have hb:∀b x,ax box tb b=some x→box b=some x:=by
  clear hs
  induction tb with
  |nil=>exact fun b x h=>h
  |cons p l ih=>
   intro b x hx
   simp only[ax] at hx
   by_cases hbp:b=p.1
   ·rw[if_pos hbp,h p ai] at hx;cases hx
   ·rw[if_neg hbp] at hx;exact ih (fun q hq=>h q (List.mem_cons_of_mem _ hq)) b x hx
 have hk:∀v y,RepA ι (Mof cx ι box) w v y→RepA ι (Mof cx ι (ax box tb)) w v y:=fun v y h=>h.less fun _=>Mof.mono hb
 refine⟨⟨hs.wi,hs.m0,hs.fix,fun b g hg=>⟨.inl (hs.dom b g hg).1,(hs.dom b g hg).2⟩,fun b x h=> .inl (hs.ub b x (hb b x h)),fun b x h=> ?_,fun b b' x x' g h1 h2=>hs.inj b b' x x' g (hb b x h1) (hb b' x' h2)⟩,hk,Oth.refl _⟩
 rcases hs.own b x (hb b x h) with h|⟨g,e1,e2,e3,c,e4,e5,e6⟩
 ·exact .inl h
 ·exact .inr ⟨g,e1,e2,e3,c,e4,e5,fun j v y hv hy=>⟨(e6 j v y hv hy).1,hk _ _ (e6 j v y hv hy).2⟩⟩
theorem Gp {o:Oper} {a:Act} {w:World} {K:Act→World→Prop} (hd:∀c,o.op≠ .defer c) (h:o.wp P a w K Q):o.wpIn (aT cx.R) 9 P a w K Q:=by
 refine⟨fun _ _=>trivial,?_⟩
 have he:Oper.semAt (aT cx.R).round a.eval o=execOp a.eval o:=Oper.semAt_eq _ _ _ hd
 rw[he]
 unfold Oper.wp at h
 generalize (execOp a.eval o).run P w=r at h ⊢
 cases r with
 |ok x w'=>
  cases x with
  |enter f args=>exact⟨fun h=>(by cases h),qV.2 h⟩
  |row row args=>exact⟨fun h=>(by cases h),NP.2 h⟩
  |round=>exact h.elim
  |_=>exact h
 |halt x w'=>cases x<;>exact h
theorem yP {i:Nat} {o:Oper} (ho:ops[i]? =some o) {A:AS} {r:R} {ι:Nat→Option Nat} {a:Act} {w:World} (hs:Sat cx ι A a w) (h:StepOK P cx ops o A r) {K:Act→World→Prop}
 (hK:∀ι' a' w',Sat cx ι' (A.app o.dst r.S) a' w'→K a' w'):wpOpIn (aT cx.R) 9 P ops Q i K a w:=by
 unfold wpOpIn
 simp only[ho,NV hs h.g]
 cases hon:r.on with
 |true=>
  simp only[if_true]
  refine Gp h.nd (h.y hon ι A.box A.used a w hs.h trivial h.fp h.fresh (fun y _=>hs.eval y) K Q ?_)
  intro v ι' w' hst hv
  exact hK _ _ _ (hs.put h.dst hst hv)
 |false=>
  simp only[Bool.false_eq_true,if_false]
  obtain⟨he,hu⟩:=h.off hon
  exact⟨fun _ _=>trivial,hK ι _ _ (hs.put h.dst (NW hs.h he) (hu _ _ _))⟩
inductive Chain (P:Program) (cx:Cx) (ops:Array Oper):List Oper→AS→List R→AS→Prop
 |nil (A:AS):Chain P cx ops [] A [] A
 |cons {o:Oper} {l:List Oper} {A A':AS} {r:R} {rs:List R} (h:StepOK P cx ops o A r) (t:Chain P cx ops l (A.app o.dst r.S) rs A'):Chain P cx ops (o::l) A (r::rs) A'
theorem Gq {A':AS} (hQ:∀ι a w,Sat cx ι A' a w→Q .normal a w):∀(l:List Oper) (k:Nat) (rs:List R) (A:AS) (ι:Nat→Option Nat) (a:Act) (w:World),(∀j,l[j]? =ops[k+j]?)→Chain P cx ops l A rs A'→Sat cx ι A a w→
 wpOpsIn (aT cx.R) 9 P ops Q (List.range' k l.length) a w
 | [],k,rs,A,ι,a,w,_,hc,hs=>by cases hc;exact hQ ι a w hs
 |o::l,k,rs,A,ι,a,w,hl,hc,hs=>by
  cases hc with
  |cons h t=>
   have h0:ops[k]? =some o:=by simpa using(hl 0).symm
   rw[List.length_cons,List.range'_succ,wpOpsIn_cons]
   exact yP h0 hs h fun ι' a' w' hs'=>Gq hQ l (k+1) _ _ ι' a' w' (fun j=>by have:=hl (j+1);simpa[Nat.add_assoc,Nat.add_comm 1 j] using this) t hs'
theorem Gs {id:Nat} {A A':AS} {rs:List R} {Q:Exit→AS→Prop} (hc:Chain P cx ops ops.toList A rs A') (hQ:Q .normal A'):AWp P cx (.region id ops false) Q A:=by
 intro ι a w hs
 refine wpIn_region ?_
 have:=Gq (P:=P) (cx:=cx) (ops:=ops) (Q:=fun e a' w'=>∃ι' A',Sat cx ι' A' a' w'∧Q e A') (A':=A') (fun ι a w h=>⟨ι,A',h,hQ⟩) ops.toList 0 rs A ι a w ai hc hs
 simpa[List.range_eq_range'] using this
def OpS.reads (S:OpS):List Nat:=S.fp.map (·.1)
def OpS.turns (S:OpS):List Nat:=S.tb.map (·.1)
def vZ (s t:List Nat×List Nat):Bool:=s.2.all (fun b=> !t.1.contains b&& !t.2.contains b)&&t.2.all (fun b=> !s.1.contains b)
def OpS.nm (S:OpS):List Nat×List Nat:=(S.reads,S.turns)
theorem Cu {S:OpS} {b:Nat}:b∈S.turns↔∃r,(b,r)∈S.tb:=by simp[OpS.turns]
theorem mem_reads {S:OpS} {b:Nat}:b∈S.reads↔∃x,(b,x)∈S.fp:=by simp[OpS.reads]
theorem NY {S T:OpS} (h:vZ S.nm T.nm=true):(∀b r,(b,r)∈S.tb→(∀x,(b,x)∉T.fp)∧∀r,(b,r)∉T.tb)∧(∀b r,(b,r)∈T.tb→∀x,(b,x)∉S.fp):=by
 simp only[vZ,OpS.nm,Bool.and_eq_true,List.all_eq_true,Bool.not_eq_true',List.contains_eq_mem,decide_eq_false_iff_not] at h
 obtain⟨h1,h2⟩:=h
 constructor
 ·intro b r hr
  obtain⟨h3,h4⟩:=h1 b (Cu.2 ⟨r,hr⟩)
  exact⟨fun x hx=>h3 (mem_reads.2 ⟨x,hx⟩),fun r' hr'=>h4 (Cu.2 ⟨r',hr'⟩)⟩
 ·intro b r hr x hx
  exact h2 b (Cu.2 ⟨r,hr⟩) (mem_reads.2 ⟨x,hx⟩)
theorem NZ {env:Nat→AV} {d e:Option Tmp} {x y:AV} (h:∀t,d=some t→e≠some t):kV (kV env d x) e y=kV (kV env e y) d x:=by
 cases d with
 |none=>rfl
 |some d=>
  cases e with
  |none=>rfl
  |some e=>
   have hne:d≠e:=fun he=>h d rfl (he▸rfl)
   funext t
   simp only[kV]
   by_cases h1:t=e<;>by_cases h2:t=d
   ·exact absurd (h2.symm.trans h1) hne
   ·simp[h1,Ne.symm hne]
   ·simp[h2,hne]
   ·simp[h1,h2]
theorem N7 {box:Nat→Option Bx} {s t:List (Nat×Option Bx)} (h:∀b r,(b,r)∈s→∀r',(b,r')∉t):ax (ax box s) t=ax (ax box t) s:=by
 funext b
 by_cases hb:∃r,(b,r)∈s
 ·obtain⟨r,hr⟩:=hb
  have h1:ax (ax box s) t b=ax box s b:=nT (h b r hr)
  rw[h1]
  exact(Gn s (nT (box:=box) (h b r hr))).symm
 ·have h2:∀r,(b,r)∉s:=fun r hr=>hb ⟨r,hr⟩
  rw[nT (box:=ax box t) h2]
  exact Gn t (nT h2)
theorem Gt {A:AS} {d e:Option Tmp} {S T:OpS} (hd:∀t,d=some t→e≠some t) (hn:∀b r,(b,r)∈S.tb→∀r',(b,r')∉T.tb):(A.app d S).app e T=(A.app e T).app d S:=by
 simp only[AS.app,NZ hd,N7 hn,AS.mk.injEq,true_and]
 funext b
 exact propext ⟨fun h=>by rcases h with(h|h)|h<;>simp[h],fun h=>by rcases h with(h|h)|h<;>simp[h]⟩
theorem Cv {A:AS} {d:Option Tmp} {S:OpS} {y:Operand} (h:∀t,d=some t→y≠ .tmp t):(A.app d S).eval y=A.eval y:=by
 cases y with
 |tmp t=>
  cases d with
  |none=>rfl
  |some d=>
   have:t≠d:=fun e=>h d rfl (e▸rfl)
   simp[AS.eval,AS.app,kV,this]
 |_=>rfl
theorem Gu {o:Oper} {A:AS} {d:Option Tmp} {S:OpS} {on:Bool} (h:∀t,d=some t→t∉o.looksAt ops):j6 ops o (A.app d S).env on↔j6 ops o A.env on:=by
 unfold j6
 cases hg:o.guard with
 |none=>simp
 |some jw=>
  obtain⟨j,want⟩:=jw
  have key:∀t,gH ops j=some t→(A.app d S).env t=A.env t:=by
   intro t ht
   cases d with
   |none=>rfl
   |some d=>
    have:t≠d:=by
     rintro rfl
     refine h t rfl ?_
     unfold Oper.looksAt
     refine List.mem_append_right _ ?_
     simp only[hg]
     unfold gH at ht
     simp[ht]
    simp[AS.app,kV,this]
  constructor
  ·rintro⟨t,c,b,h1,h2,h3⟩;exact⟨t,c,b,h1,by rw[←key t h1];exact h2,h3⟩
  ·rintro⟨t,c,b,h1,h2,h3⟩;exact⟨t,c,b,h1,by rw[key t h1];exact h2,h3⟩
theorem operand_looks {o:Oper} {t:Tmp} (h:Operand.tmp t∈o.op.operands):t∈o.looksAt ops:=
 List.mem_append_left _ (List.mem_filterMap.2 ⟨.tmp t,by simpa using h,rfl⟩)
theorem StepOK.back {o:Oper} {A:AS} {d:Option Tmp} {S:OpS} {r:R} (hl:∀t,d=some t→t∉o.looksAt ops) (hn:∀b x,(b,x)∈S.tb→∀y,(b,y)∉r.S.fp) (h:StepOK P cx ops o (A.app d S) r):StepOK P cx ops o A r where
 g:=(Gu hl).1 h.g
 y:=fun hon=>(h.y hon).congr fun y hy=>(Cv (S:=S) fun t ht e=>hl t ht (operand_looks (by rw[←e];exact hy))).symm
 off:=h.off
 fp:=fun b x hx=>by
  have:=h.fp b x hx
  have h2:ax A.box S.tb b=A.box b:=nT fun r hr=>hn b r hr x hx
  exact h2▸this
 fresh:=fun b x hx=>(h.fresh b x hx).imp id fun h hu=>h (.inl hu)
 dst:=h.dst
 nd:=h.nd
theorem StepOK.fwd {o:Oper} {A:AS} {d:Option Tmp} {S:OpS} {r:R} (hl:∀t,d=some t→t∉o.looksAt ops) (hn:∀b x,(b,x)∈S.tb→(∀y,(b,y)∉r.S.fp)∧∀y,(b,y)∉r.S.tb) (h:StepOK P cx ops o A r):StepOK P cx ops o (A.app d S) r where
 g:=(Gu hl).2 h.g
 y:=fun hon=>(h.y hon).congr fun y hy=>Cv (S:=S) fun t ht e=>hl t ht (operand_looks (by rw[←e];exact hy))
 off:=h.off
 fp:=fun b x hx=>by
  have h2:ax A.box S.tb b=A.box b:=nT fun r hr=>(hn b r hr).1 x hx
  exact h2.trans (h.fp b x hx)
 fresh:=fun b x hx=>(h.fresh b x hx).imp id fun h hu=>by
  rcases hu with hu|⟨r',hr'⟩
  ·exact h hu
  ·exact(hn b r' hr').2 _ hx
 dst:=h.dst
 nd:=h.nd
def tN (P:Program) (cx:Cx) (md:Region.Mode) (ops:Array Oper) (rs:Nat→R) (Q:AS→Prop):Nat→Array Bool→AS→Prop
 |0,listed,A=>Region.ready md ops listed=[]∧Q A
 |fuel+1,listed,A=>(Region.ready md ops listed=[]→Q A)∧∀i,i∈Region.ready md ops listed→∃o,ops[i]? =some o∧StepOK P cx ops o A (rs i)∧tN P cx md ops rs Q fuel (listed.setIfInBounds i true) (A.app o.dst (rs i).S)
theorem Gv {rs:Nat→R} {Q':AS→Prop} (hQ:∀ι A a w,Sat cx ι A a w→Q' A→Q .normal a w):∀(fuel:Nat) (listed:Array Bool) (A:AS) (ι:Nat→Option Nat) (a:Act) (w:World),Sat cx ι A a w→tN P cx md ops rs Q' fuel listed A→wpAnyIn (aT cx.R) 9 P md ops Q fuel listed a w
 |0,_,_,_,_,_,hs,h=>⟨h.1,hQ _ _ _ _ hs h.2⟩
 |fuel+1,_,_,_,_,_,hs,h=>⟨fun h0=>hQ _ _ _ _ hs (h.1 h0),fun i hi=>by
   obtain⟨o,ho,h1,h2⟩:=h.2 i hi
   exact yP ho hs h1 fun ι' a' w' hs'=>Gv hQ fuel _ _ ι' a' w' hs' h2⟩
theorem N8 {rs:Nat→R} {Q':AS→Prop} {i:Nat} {oi:Oper} (hi:ops[i]? =some oi):∀(fuel:Nat) (listed:Array Bool) (A:AS),
 (∀j oj,ops[j]? =some oj→j≠i→listed.getD j true=false→(∀e,e∈oj.after→Region.binds md e=true→e.on≠i)→oi.apart ops oj=true∧vZ (rs i).S.nm (rs j).S.nm=true)→
 i∈Region.ready md ops listed→StepOK P cx ops oi A (rs i)→
 tN P cx md ops rs Q' fuel (listed.setIfInBounds i true) (A.app oi.dst (rs i).S)→tN P cx md ops rs Q' (fuel+1) listed A:=by
 intro fuel
 induction fuel with
 |zero=>
  intro listed A _ hr hy H
  refine⟨fun h=>(by rw[h] at hr;cases hr),fun j hj=> ?_⟩
  by_cases hji:j=i
  ·subst hji;exact⟨oi,hi,hy,H⟩
  ·have:=ready_mono hj hji
   rw[H.1] at this
   cases this
 |succ fuel ih=>
  intro listed A hfree hr hy H
  refine⟨fun h=>(by rw[h] at hr;cases hr),fun j hj=> ?_⟩
  by_cases hji:j=i
  ·subst hji;exact⟨oi,hi,hy,H⟩
  ·obtain⟨oj,hoj,h1,h2⟩:=H.2 j (ready_mono hj hji)
   obtain⟨hjun,oj',hoj',hall⟩:=mem_ready.1 hj
   obtain rfl:oj'=oj:=by rw[hoj] at hoj';exact(Option.some.inj hoj').symm
   have hnot:∀e,e∈oj'.after→Region.binds md e=true→e.on≠i:=fun e he hb heq=>by
    have h1:=hall e he hb
    have h0:=(mem_ready.1 hr).1
    rw[heq] at h1
    rcases Nat.lt_or_ge i listed.size with h'|h'
    ·simp[h'] at h0 h1;rw[h0] at h1;cases h1
    ·simp[Array.getElem?_eq_none h'] at h1
   obtain⟨hap,hna⟩:=hfree j oj' hoj hji hjun hnot
   obtain⟨a1,a2,a3⟩:=Oper.apart_spec hap
   obtain⟨n1,n2⟩:=NY hna
   have hfree':∀k ok,ops[k]? =some ok→k≠i→(listed.setIfInBounds j true).getD k true=false→
    (∀e,e∈ok.after→Region.binds md e=true→e.on≠i)→oi.apart ops ok=true∧vZ (rs i).S.nm (rs k).S.nm=true:=fun k ok hk hki hun hno=>by
    refine hfree k ok hk hki ?_ hno
    by_cases hjk:j=k
    ·subst hjk;exact hjun
    ·rw[getD_set_ne true hjk] at hun;exact hun
   refine⟨oj',hoj,h1.back a1 (fun b r hr y hy=>(n1 b r hr).1 y hy),ih (listed.setIfInBounds j true) _ hfree' (ready_mono hr (Ne.symm hji)) (hy.fwd a3 fun b r hr=>⟨fun y=>n2 b r hr y,fun y hy'=>(n1 b y hy').2 r hr⟩) ?_⟩
   rw[Array.setIfInBounds_comm _ _ hji,Gt (fun t ht=>fun h=>a2 t h ht) (fun b r hr r' hr'=>(n1 b r' hr').2 r hr)]
   exact h2
def wu (md:Region.Mode):List Oper→Nat→List (List Nat×List Nat)→Bool
 |_::l,k,s::ss=>(l.zip ss).all (fun p=>p.1.after.any (fun e=>Region.binds md e&&e.on==k)||vZ s p.2)&&wu md l (k+1) ss
 |_,_,_=>true
theorem Gw {rs:Nat→R} {A':AS} {Q':AS→Prop} (hQ:Q' A'):∀(l:List Oper) (k:Nat) (listed:Array Bool) (A:AS) (ss:List R),(∀j,l[j]? =ops[k+j]?)→(∀j,j<l.length→ss[j]? =some (rs (k+j)))→(∀j,listed.getD j true=false→k≤j)→
 Region.lexFrom md ops l.length k listed=true→wu md l k (ss.map fun r=>r.S.nm)=true→Chain P cx ops l A ss A'→tN P cx md ops rs Q' l.length listed A
 | [],_,_,_,_,_,_,_,hB,_,hc=>by cases hc;exact⟨by simpa[Region.lexFrom] using hB,hQ⟩
 |o::l,k,listed,A,ss,hl,hss,hlst,hB,hn,hc=>by
  cases hc with
  | @cons _ _ _ _ r rs' h t=>
    have h0:ops[k]? =some o:=by simpa using(hl 0).symm
    have hr0:rs k=r:=by have:=hss 0 ai;simpa using this.symm
    simp only[List.length_cons,Region.lexFrom,Bool.and_eq_true] at hB
    obtain⟨⟨hr,hf⟩,hB'⟩:=hB
    simp only[List.map_cons,wu,Bool.and_eq_true,List.all_eq_true] at hn
    obtain⟨hn1,hn2⟩:=hn
    have hl':∀j,l[j]? =ops[k+1+j]? :=fun j=>by have:=hl (j+1);simpa[Nat.add_assoc,Nat.add_comm 1 j] using this
    have hss':∀j,j<l.length→rs'[j]? =some (rs (k+1+j)):=fun j hj=>by have:=hss (j+1) (by simpa using hj);simpa[Nat.add_assoc,Nat.add_comm 1 j] using this
    rw[←hr0] at h t
    refine N8 h0 l.length listed A ?_ (by simpa using hr) h (Gw hQ l (k+1) _ _ rs' hl' hss' ?_ hB' hn2 t)
    ·intro j oj hj hji hun hno
     refine⟨Region.free_spec h0 hf j oj hj hji hun hno,?_⟩
     have hkj:k<j:=by have:=hlst j hun;omega
     obtain⟨m,rfl⟩:∃m,j=k+1+m:=⟨j-(k+1),by omega⟩
     have hm:l[m]? =some oj:=by rw[hl' m];exact hj
     have hml:m<l.length:=(List.getElem?_eq_some_iff.1 hm).1
     have hmem:(oj,(rs (k+1+m)).S.nm)∈l.zip (rs'.map fun r=>r.S.nm):=by
      refine List.mem_of_getElem? (i:=m) ?_
      rw[List.getElem?_zip_eq_some]
      exact⟨hm,by simp[hss' m hml]⟩
     have:=hn1 _ hmem
     simp only[Bool.or_eq_true] at this
     rcases this with h1|h1
     ·obtain⟨e,he,hb⟩:=Array.any_eq_true'.1 h1
      simp only[Bool.and_eq_true,beq_iff_eq] at hb
      exact absurd hb.2 (hno e he hb.1)
     ·rw[hr0] at *;exact h1
    ·intro j hun
     by_cases hjk:k=j
     ·subst hjk
      exfalso
      have:(listed.setIfInBounds k true).getD k true=true:=by
       rw[Array.getD_eq_getD_getElem?]
       rcases Nat.lt_or_ge k listed.size with h'|h'
       ·simp[h']
       ·rw[Array.getElem?_eq_none (by simpa using h')];rfl
      rw[this] at hun;cases hun
     ·rw[getD_set_ne true hjk] at hun
      have:=hlst j hun;omega
theorem Sat.drew {ι:Nat→Option Nat} {A:AS} {a:Act} {w:World} (hs:Sat cx ι A a w):Sat cx ι A a {w with drawn:=w.drawn+1}:=by
 have hk:∀v y,RepA ι (Mof cx ι A.box) w v y→RepA ι (Mof cx ι A.box) {w with drawn:=w.drawn+1} v y:=fun v y h=>RepA.keep (w:=w) (w':={w with drawn:=w.drawn+1}) (fun _ _ h=>h) (fun _ _ h=>h) ⟨Nat.le_refl _,fun _ c _ h=>⟨c,h,rfl⟩⟩ (fun _ _ _=>rfl) h
 refine⟨⟨⟨hs.h.wi.os,hs.h.wi.tape,hs.h.wi.output,hs.h.wi.evo.trans ⟨Nat.le_refl _,fun _ c _ h=>⟨c,h,rfl⟩⟩,hs.h.wi.oth,hs.h.wi.block⟩,hs.h.m0,hs.h.fix,hs.h.dom,hs.h.ub,?_,hs.h.inj⟩,hs.size,hs.defers.keep (Oth.refl w),fun t=>hk _ _ (hs.env t)⟩
 intro b x hb
 rcases hs.h.own b x hb with h1|⟨g,h1,h2,h3,c,h4,h5,h6⟩
 ·exact .inl h1
 exact .inr ⟨g,h1,h2,h3,c,h4,h5,fun j v y hv hy=>⟨(h6 j v y hv hy).1,hk _ _ (h6 j v y hv hy).2⟩⟩
theorem Chain.length {l:List Oper} {A A':AS} {ss:List R} (h:Chain P cx ops l A ss A'):ss.length=l.length:=by
 induction h with
 |nil=>rfl
 |cons _ _ ih=>simp[ih]
theorem N9 {id:Nat} {A A':AS} {ss:List R} {Q:Exit→AS→Prop} (hm:P.follows .mixedOrders=true) (hB:Region.lexB .any ops=true) (hc:Chain P cx ops ops.toList A ss A')
 (hn:wu .any ops.toList 0 (ss.map fun r=>r.S.nm)=true) (hQ:Q .normal A'):AWp P cx (.region id ops true) Q A:=by
 intro ι a w hs
 simp only[Region.lexB,Bool.and_eq_true] at hB
 have hlen:=hc.length
 have hR:tN P cx .any ops (fun i=>ss.getD i ⟨false,⟨[],.any,[]⟩⟩) (fun A=>Q .normal A) ops.size (Array.replicate ops.size false) A:=Gw (P:=P) (cx:=cx) (ops:=ops) (md:= .any) (rs:=fun i=>ss.getD i ⟨false,⟨[],.any,[]⟩⟩) (A':=A') (Q':=fun A=>Q .normal A) hQ ops.toList 0 (Array.replicate ops.size false) A ss ai
  (fun j hj=>by simp[List.getElem?_eq_getElem (hlen▸hj)]) (fun j _=>Nat.zero_le j) (by simpa using hB.2) hn hc
 refine wpIn_region_any hm (Gv (Q:=fun e a' w'=>∃ι' A',Sat cx ι' A' a' w'∧Q e A') (fun ι A a w h1 h2=>⟨ι,A,h1,h2⟩) _ _ A ι a _ hs.drew hR)
end
end
section
theorem lW (b off j:Nat):(⟨b,off,none⟩:Addr).add j=⟨b,off+j,none⟩:=by
 unfold Addr.add
 split<;>simp_all
def AV.cells:AV→List AV
 | .agg l=>l
 |x=>[x]
def AV.one:AV→Bool
 | .v x=>x.oneCell'
 | .sl .. =>true
 | .ptr .. =>true
 | .pp _=>true
 | .osl .. =>true
 | .fn .. =>true
 | .iface .. =>true
 |_=>false
section
variable {P:Program} {cx:Cx} {ι:Nat→Option Nat} {M:Nat→Prop} {w:World}
theorem RepA.one {v:Value} {x:AV} (h:RepA ι M w v x) (hx:x.one=true):v.oneCell'=true:=by
 cases h with
 |d h=>cases h with
  |v x=>exact hx
  |sl=>rfl
  |pp=>rfl
  |mp=>rfl
  |fn=>rfl
  |agg=>simp[AV.one] at hx
  |tup=>simp[AV.one] at hx
 |any=>simp[AV.one] at hx
 |agg=>simp[AV.one] at hx
 |tup=>simp[AV.one] at hx
 |iffT=>simp[AV.one] at hx
 |iffF=>simp[AV.one] at hx
 |_=>rfl
theorem RepA.agg' {v:Value} {l:List AV} (h:RepA ι M w v (.agg l)):∃vs:Array Value,v= .agg vs∧vs.size=l.length∧∀(i:Nat) (x:Value) (y:AV),vs[i]? =some x→l[i]? =some y→RepA ι M w x y:=by
 cases h with
 |d h=>cases h with
  |agg hn h=>exact⟨_,rfl,hn,fun i x y hx hy=> .d (h i x y hx hy)⟩
 |agg hn h=>exact⟨_,rfl,hn,h⟩
theorem RepA.tup' {v:Value} {l:List AV} (h:RepA ι M w v (.tup l)):∃vs:Array Value,v= .tuple vs∧vs.size=l.length∧∀(i:Nat) (x:Value) (y:AV),vs[i]? =some x→l[i]? =some y→RepA ι M w x y:=by
 cases h with
 |d h=>cases h with
  |tup hn h=>exact⟨_,rfl,hn,fun i x y hx hy=> .d (h i x y hx hy)⟩
 |tup hn h=>exact⟨_,rfl,hn,h⟩
def AV.flat (x:AV):Bool:=match x with| .agg l=>l.all AV.one|x=>x.one
theorem RepA.cells {v:Value} {x:AV} (h:RepA ι M w v x) (hx:x.flat=true):v.cells.size=x.cells.length∧∀(i:Nat) (u:Value) (y:AV),v.cells[i]? =some u→x.cells[i]? =some y→u.oneCell'=true∧RepA ι M w u y:=by
 have key:∀(v:Value) (x:AV),x.cells=[x]→x.one=true→RepA ι M w v x→v.cells.size=x.cells.length∧∀(i:Nat) (u:Value) (y:AV),v.cells[i]? =some u→x.cells[i]? =some y→u.oneCell'=true∧RepA ι M w u y:=by
  intro v x hc ho h
  have h1:=h.one ho
  have hv:v.cells= #[v]:=by cases v<;>first|rfl|simp[Value.oneCell'] at h1
  rw[hc,hv]
  refine⟨rfl,fun i u y hu hy=> ?_⟩
  rcases i with _|i
  ·simp at hu hy;subst hu hy;exact⟨h1,h⟩
  ·simp at hy
 cases x with
 |agg l=>
  obtain⟨vs,rfl,hn,hh⟩:=h.agg'
  refine⟨hn,fun i u y hu hy=> ?_⟩
  have:=hh i u y hu hy
  simp only[AV.flat,List.all_eq_true] at hx
  exact⟨this.one (hx y (List.mem_of_getElem? hy)),this⟩
 |_=>exact key _ _ rfl hx h
theorem bJ {o:Oper} {ρ:Operand→AV} {fp:List (Nat×Bx)} {x:AV}
 (h:∀ι M (a:Act) w,(∀b x,(b,x)∈fp→x.cs≠ []→∃g,ι b=some g∧tL ι M w g x)→(∀y,y∈o.op.operands→RepA ι M w (a.eval y) (ρ y))→∃v,(execOp a.eval o).run P w= .ok (.value v) w∧RepA ι M w v x):Yields P cx o ρ ⟨fp,x,[]⟩:=by
 intro ι box used a w hs _ hfp _ hops K Q hK
 obtain⟨v,hrun,hv⟩:=h ι (Mof cx ι box) a w (fun b x hb hne=>by obtain⟨g,h1,_,_,h4⟩:=hs.ne (hfp b x hb) hne;exact⟨g,h1,h4⟩) hops
 unfold Oper.wp
 rw[hrun,Oper.upon_value]
 exact hK v ι w ⟨hs.used_mono fun b hb=> .inl hb,fun _ _ h=>h,Oth.refl _⟩ hv
def AV.val?:AV→Option Value
 | .v y=>some y
 |_=>none
theorem aM {o:Oper} {op:Op} (ho:o.op=op) {y:Operand} (h:y∈op.operands):y∈o.op.operands:=by rw[ho];exact h
theorem Gx {o:Oper} {ρ:Operand→AV} {y:Operand} (ho:o.op= .move y∨o.op= .assign y):Yields P cx o ρ ⟨[],ρ y,[]⟩:=by
 refine bJ fun ι M a w _ hops=>⟨a.eval y,?_,hops y ?_⟩
 ·rcases ho with ho|ho<;>simp[execOp,ho]
 ·rcases ho with ho|ho<;>simp[ho,Op.operands]
def nU (t:Bool):AV→AV→AV
 | .v (.bool p),.v (.bool q)=> .v (.bool (cond t p q))
 |x,y=>cond t x y
theorem ww (t:Bool) (x y:AV):nU t x y=cond t x y:=by
 unfold nU
 split<;>cases t<;>rfl
theorem RepA.ptr' {v:Value} {b off:Nat} (h:RepA ι M w v (.ptr b off)):∃g,ι b=some g∧v= .pointer (some ⟨g,off,none⟩):=by
 cases h with
 |d h=>cases h
 |ptr h=>exact⟨_,h,rfl⟩
def AV.strip:AV→AV
 | .iff _ x=>x
 |x=>x
def AV.cnd:AV→Bool
 | .iff c _=>c
 |_=>true
theorem RepA.strip {v:Value} {x:AV} (h:RepA ι M w v x) (hc:x.cnd=true):RepA ι M w v x.strip:=by
 cases x with
 |iff c y=>
  simp only[AV.cnd] at hc
  subst hc
  cases h with
  |d h=>cases h
  |iffT h=>exact h
 |_=>exact h
theorem Oa {o:Oper} {ρ:Operand→AV} {c p q:Operand} {t:Bool} (ho:o.op= .pick c p q) (hc:(ρ c).strip= .v (.bool t)) (hcc:(ρ c).cnd=true) (hp:t=true→(ρ p).cnd=true) (hq:t=false→(ρ q).cnd=true):
 Yields P cx o ρ ⟨[],nU t (ρ p).strip (ρ q).strip,[]⟩:=by
 refine bJ fun ι M a w _ hops=> ?_
 have h1:=(hops c (aM ho (by simp[Op.operands]))).strip hcc
 have h2:=(hops p (aM ho (by simp[Op.operands])))
 have h3:=(hops q (aM ho (by simp[Op.operands])))
 rw[hc] at h1
 have h1:=h1.ofV
 refine⟨if t then a.eval p else a.eval q,by simp[execOp,ho,h1,asBool],?_⟩
 rw[ww]
 cases t with
 |true=>simpa using h2.strip (hp rfl)
 |false=>simpa using h3.strip (hq rfl)
theorem Ob {o:Oper} {ρ:Operand→AV} {s f:Nat} {y:Operand} {fs:Array Field} {fd:Field} {n:Nat} {b off:Nat} (ho:o.op= .fieldAddr s y f) (hu:P.underlying s=some (.struct fs)) (hf:fs[f]? =some fd)
 (hn:∀w,(sizeOf fd.type).run P w= .ok n w) (hn0:n≠0) (hy:ρ y= .ptr b off):Yields P cx o ρ ⟨[],.ptr b (off+fd.offset),[]⟩:=by
 refine bJ fun ι M a w _ hops=> ?_
 have h1:=hops y (aM ho (by simp[Op.operands]))
 rw[hy] at h1
 obtain⟨g,hg,hv⟩:=h1.ptr'
 exact⟨.pointer (some ⟨g,off+fd.offset,none⟩),by simp[execOp,ho,Instr.fieldAt,run_underlying hu,hf,hv,Instr.sureAddr,fieldPlace,hn,hn0,lW],.ptr hg⟩
theorem RepA.pp_drop {g off n:Nat} {l:List AV} (h:RepA ι M w (.pointer (some ⟨g,off,none⟩)) (.pp l)):RepA ι M w (.pointer (some ⟨g,off+n,none⟩)) (.pp (l.drop n)):=by
 cases h with
 |d h=>cases h with
  |pp x h1 h2 h3 h4=>
   refine .d (.pp (fun j=>x (n+j)) h1 h2 (fun j hj=> ?_) fun j y hy=>h4 (n+j) y ?_)
   ·rw[Nat.add_assoc];exact h3 (n+j) (by simp at hj;omega)
   ·simpa using hy
theorem RepA.pp_addr {v:Value} {l:List AV} (h:RepA ι M w v (.pp l)):∃g off,v= .pointer (some ⟨g,off,none⟩):=by
 cases h with
 |d h=>cases h with
  |pp=>exact⟨_,_,rfl⟩
theorem Oc {o:Oper} {ρ:Operand→AV} {s f:Nat} {y:Operand} {fs:Array Field} {fd:Field} {n:Nat} {l:List AV} (ho:o.op= .fieldAddr s y f) (hu:P.underlying s=some (.struct fs)) (hf:fs[f]? =some fd)
 (hn:∀w,(sizeOf fd.type).run P w= .ok n w) (hn0:n≠0) (hy:ρ y= .pp l):Yields P cx o ρ ⟨[],.pp (l.drop fd.offset),[]⟩:=by
 refine bJ fun ι M a w _ hops=> ?_
 have h1:=hops y (aM ho (by simp[Op.operands]))
 rw[hy] at h1
 obtain⟨g,off,hv⟩:=h1.pp_addr
 rw[hv] at h1
 exact⟨_,by simp[execOp,ho,Instr.fieldAt,run_underlying hu,hf,hv,Instr.sureAddr,fieldPlace,hn,hn0,lW],h1.pp_drop⟩
theorem Gy {g off n:Nat} (f:Nat→Value) (h:∀j,j<n→w.cell? ⟨g,off+j,none⟩=some (f j)):(loadCells ⟨g,off,none⟩ n).run P w= .ok ((List.range n).map f).toArray w:=
 run_loadCells w _ n f fun j hj=>by rw[lW];exact h j hj
def eD (ag:Bool) (n off:Nat) (cs:List AV):Option AV:=if ag then(if off+n≤cs.length then some (.agg ((cs.drop off).take n)) else none) else cs[off]?
theorem Cw {t:TypeId} {ag:Bool} {n g off:Nat} {cs:List AV} {x:AV} {c:Array Value} (ha:∀w,(isAgg t).run P w= .ok ag w) (hn:∀w,(sizeOf t).run P w= .ok n w) (hx:eD ag n off cs=some x)
 (hc:∀j,j<cs.length→∃v,c[j]? =some v) (hw:∀(j:Nat) (v:Value),c[j]? =some v→w.cell? ⟨g,j,none⟩=some v) (hr:∀(j:Nat) (v:Value) (y:AV),c[j]? =some v→cs[j]? =some y→RepA ι M w v y):
 ∃v,(loadVar t ⟨g,off,none⟩).run P w= .ok v w∧RepA ι M w v x:=by
 unfold eD at hx
 cases ag with
 |false=>
  simp at hx
  have hlt:=(List.getElem?_eq_some_iff.1 hx).1
  obtain⟨v,hv⟩:=hc off hlt
  refine⟨v,?_,hr off v x hv hx⟩
  simp[loadVar,ha,hw off v hv]
 |true=>
  simp only[if_true] at hx
  split at hx
  ·rename_i hle
   injection hx with hx
   subst hx
   have h1:∀j,j<n→w.cell? ⟨g,off+j,none⟩=some (c.getD (off+j) undef):=fun j hj=>by
    obtain⟨v,hv⟩:=hc (off+j) byOmega
    rw[hw _ v hv,Array.getD_eq_getD_getElem?,hv];rfl
   refine⟨.agg ((List.range n).map fun j=>c.getD (off+j) undef).toArray,?_,.agg ?_ ?_⟩
   ·simp[loadVar,ha,hn,Gy (P:=P) (w:=w) (fun j=>c.getD (off+j) undef) h1]
   ·simp;omega
   ·intro i u y hu hy
    simp only[List.getElem?_toArray,List.getElem?_map] at hu
    have hi:i<n:=by
     rcases Nat.lt_or_ge i n with h|h
     ·exact h
     ·rw[List.getElem?_eq_none (by simpa using h)] at hu;simp at hu
    rw[List.getElem?_range hi] at hu
    simp at hu
    rw[List.getElem?_take,if_pos hi,List.getElem?_drop] at hy
    obtain⟨v,hv⟩:=hc (off+i) (by have:=(List.getElem?_eq_some_iff.1 hy).1;omega)
    rw[Array.getElem?_eq_some_iff] at hv
    obtain⟨hlt,hv⟩:=hv
    have hu':c[off+i]? =some u:=by
     rw[Array.getElem?_eq_getElem hlt,hv,←hu];simp[hlt,hv]
    exact hr (off+i) u y hu' hy
  ·cases hx
theorem Od {o:Oper} {ρ:Operand→AV} {t:TypeId} {y:Operand} {ag:Bool} {n b off:Nat} {bx:Bx} {x:AV} (ho:o.op= .load t y) (ha:∀w,(isAgg t).run P w= .ok ag w) (hn:∀w,(sizeOf t).run P w= .ok n w)
 (hy:ρ y= .ptr b off) (hne:bx.cs≠ []) (hx:eD ag n off bx.cs=some x):Yields P cx o ρ ⟨[(b,bx)],x,[]⟩:=by
 refine bJ fun ι M a w hfp hops=> ?_
 have h1:=hops y (aM ho (by simp[Op.operands]))
 rw[hy] at h1
 obtain⟨g,hg,c,hc,hlen,hcs⟩:=hfp b bx ai hne
 have hv:a.eval y= .pointer (some ⟨g,off,none⟩):=by
  obtain⟨g',hg',hv⟩:=h1.ptr'
  rw[hg] at hg'
  injection hg' with hg'
  rw[hv,hg']
 obtain⟨v,hr,hvx⟩:=Cw (P:=P) (w:=w) (ι:=ι) (M:=M) (g:=g) ha hn hx (c:=c) (fun j hj=>⟨_,Array.getElem?_eq_getElem byOmega⟩) (fun j v hv=>by rw[cell_of_row _ _ _ _ _ _ hc];exact hv) (fun j v y h1 h2=>(hcs j v y h1 h2).2)
 exact⟨v,by simp[execOp,ho,Instr.loadAt,hv,Instr.sureAddr,hr],hvx⟩
theorem Oe {o:Oper} {ρ:Operand→AV} {t:TypeId} {y:Operand} {ag:Bool} {n:Nat} {l:List AV} {x:AV} (ho:o.op= .load t y) (ha:∀w,(isAgg t).run P w= .ok ag w) (hn:∀w,(sizeOf t).run P w= .ok n w)
 (hy:ρ y= .pp l) (hx:eD ag n 0 l=some x):Yields P cx o ρ ⟨[],x,[]⟩:=by
 refine bJ fun ι M a w _ hops=> ?_
 have h1:=hops y (aM ho (by simp[Op.operands]))
 rw[hy] at h1
 obtain⟨g,off,hv⟩:=h1.pp_addr
 rw[hv] at h1
 cases h1 with
 |d h=>cases h with
 |pp f h1 h2 h3 h4=>
  have key:∃v,(loadVar t ⟨g,off,none⟩).run P w= .ok v w∧RepA ι M w v x:=by
   unfold eD at hx
   cases ag with
   |false=>
    simp at hx
    have hlt:=(List.getElem?_eq_some_iff.1 hx).1
    refine⟨f 0,?_,.d (h4 0 x hx)⟩
    have:=(h3 0 hlt).1
    simp[loadVar,ha,Nat.add_zero] at this ⊢
    simp[this]
   |true=>
    simp only[if_true] at hx
    split at hx
    ·rename_i hle
     injection hx with hx
     subst hx
     refine⟨.agg ((List.range n).map f).toArray,?_,.d (.agg (by simp;omega) ?_)⟩
     ·have hl:=Gy (P:=P) (w:=w) (g:=g) (off:=off) (n:=n) f fun j hj=>(h3 j byOmega).1
      simp[loadVar,ha,hn,hl]
     ·intro i u y hu hy
      simp only[List.getElem?_toArray,List.getElem?_map] at hu
      have hi:i<n:=by
       rcases Nat.lt_or_ge i n with h|h
       ·exact h
       ·rw[List.getElem?_eq_none (by simpa using h)] at hu;simp at hu
      rw[List.getElem?_range hi] at hu
      simp at hu
      subst hu
      refine h4 i y ?_
      simpa[List.getElem?_take,hi] using hy
    ·cases hx
  obtain⟨v,hr,hvx⟩:=key
  exact⟨v,by simp[execOp,ho,Instr.loadAt,hv,Instr.sureAddr,hr],hvx⟩
end
end
end Go.Proofs.YtlikpcpllahalaaGreat.V
