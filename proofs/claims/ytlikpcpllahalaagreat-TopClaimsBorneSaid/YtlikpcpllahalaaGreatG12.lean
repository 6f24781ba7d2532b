/- Parts of the proof. -/
import Derived.Test.YtlikpcpllahalaaGreatG11
set_option linter.unusedSimpArgs false
set_option linter.unusedVariables false
namespace Go.Proofs.YtlikpcpllahalaaGreat.V
open Go.RowKit
set_option maxRecDepth 100000
section
section
variable {P:Program} {cx:Cx} {ops:Array Oper} {draw:Bool} {n0 i j nm m:Nat} {rest:List Oper} {env:Env} {box:ay} {u:List Nat} {acc:List (List Nat×List Nat)} {K:Env→ay→Prop} {S:OpS} {c:Prop}
 {op:Op} {ty:TypeId} {pos:String} {after:Array Edge} {dst:Option Tmp} {d:Tmp} {x:AV} {fp:List (Nat×Bx)} {g:Bool}
theorem QF (h:mI ops acc) (hK:K env box):aJ P cx ops true n0 [] i env box u acc K:=⟨fun _=>h,hK⟩
theorem QG (hK:K env box):aJ P cx ops false n0 [] i env box u acc K:=⟨(fun h=>by cases h),hK⟩
theorem QH (hn:n0+8*i=nm) (hS:oh P True env box nm op=some (S,c)) (hK:eP P cx ops draw n0 rest i env box u acc K dst S) (hc:c):
 aJ P cx ops draw n0 ({dst:=dst,op:=op,type:=ty,pos:=pos,after:=after,guard:=none}::rest) i env box u acc K:=by
 subst hn
 exact Il (cx:=cx) (o:={dst:=dst,op:=op,type:=ty,pos:=pos,after:=after,guard:=none}) hS hc hK
theorem QI {jj:Nat} {want:Bool} (hd:gH ops jj=some d) (hg:guardOf env want d=some g) (hn:n0+8*i=nm) (hS:oh P (g=true) env box nm op=some (S,c)) (hK:fT P cx ops draw n0 rest i env box u acc K g dst S) (hc:c):
 aJ P cx ops draw n0 ({dst:=dst,op:=op,type:=ty,pos:=pos,after:=after,guard:=some (jj,want)}::rest) i env box u acc K:=by
 subst hn
 unfold aJ
 simp only[hd,hg]
 exact .inr (Il (cx:=cx) (o:={dst:=dst,op:=op,type:=ty,pos:=pos,after:=after,guard:=some (jj,want)}) hS hc hK)
theorem QJ {jj:Nat} {want:Bool} (hd:gH ops jj=some d) (hg:guardOf env want d=some false) (hi:i+1=j) (hK:aJ P cx ops draw n0 rest j (dA dst (.iff false (.v (.bool false))) env) box u (([],[])::acc) K):
 aJ P cx ops draw n0 ({dst:=dst,op:=op,type:=ty,pos:=pos,after:=after,guard:=some (jj,want)}::rest) i env box u acc K:=by
 subst hi
 unfold aJ
 simp only[hd,hg]
 refine .inl ⟨?_,hK⟩
 first|trivial|rfl
theorem um {o:Oper} {l:List Oper} (h:o.dst=some d):gH (o::l).toArray 0=some d:=by simp[gH,h]
theorem uo {o:Oper} {l:List Oper} {k:Nat} (h:gH l.toArray k=some d):gH (o::l).toArray (k+1)=some d:=by simpa[gH] using h
theorem QK (hi:i+1=j) (h:aJ P cx ops draw n0 rest j ((d,x)::env) box u (([],[])::acc) K):eP P cx ops draw n0 rest i env box u acc K (some d) ⟨[],x,[]⟩:=by
 subst hi;exact⟨by simp,h⟩
theorem QL (hi:i+1=j) (h:aJ P cx ops draw n0 rest j env box u (([],[])::acc) K):eP P cx ops draw n0 rest i env box u acc K none ⟨[],x,[]⟩:=by
 subst hi;exact⟨by simp,h⟩
theorem QM {b:Nat} {bx:Bx} (hi:i+1=j) (h:aJ P cx ops draw n0 rest j ((d,x)::env) box u (([b],[])::acc) K):eP P cx ops draw n0 rest i env box u acc K (some d) ⟨[(b,bx)],x,[]⟩:=by
 subst hi;exact⟨by simp,h⟩
theorem QN {b:Nat} {r:Option Bx} (hi:i+1=j) (hb:Nat.blt b (n0+8*i+8)=true) (h:aJ P cx ops draw n0 rest j ((d,x)::env) ((b,r)::box) (b::u) (([],[b])::acc) K):eP P cx ops draw n0 rest i env box u acc K (some d) ⟨[],x,[(b,r)]⟩:=by
 subst hi;exact⟨by simpa[Nat.blt_eq] using hb,h⟩
theorem QO {b b':Nat} {r:Option Bx} {bx:Bx} (hi:i+1=j) (hb:Nat.blt b (n0+8*i+8)=true) (h:aJ P cx ops draw n0 rest j env ((b,r)::box) (b::u) (([b'],[b])::acc) K):eP P cx ops draw n0 rest i env box u acc K none ⟨[(b',bx)],x,[(b,r)]⟩:=by
 subst hi;exact⟨by simpa[Nat.blt_eq] using hb,h⟩
theorem QP {b b' b0:Nat} {r r':Option Bx} {bx:Bx} (hi:i+1=j) (hb:(Nat.blt b (n0+8*i+8)&&Nat.blt b' (n0+8*i+8))=true) (h:aJ P cx ops draw n0 rest j ((d,x)::env) ((b,r)::(b',r')::box) (b::b'::u) (([b0],[b,b'])::acc) K):
 eP P cx ops draw n0 rest i env box u acc K (some d) ⟨[(b0,bx)],x,[(b,r),(b',r')]⟩:=by
 subst hi;exact⟨by simpa[Nat.blt_eq] using hb,h⟩
theorem QQ {b b':Nat} {r:Option Bx} {bx:Bx} (hi:i+1=j) (hb:Nat.blt b (n0+8*i+8)=true) (h:aJ P cx ops draw n0 rest j ((d,x)::env) ((b,r)::box) (b::u) (([b'],[b])::acc) K):eP P cx ops draw n0 rest i env box u acc K (some d) ⟨[(b',bx)],x,[(b,r)]⟩:=by
 subst hi;exact⟨by simpa[Nat.blt_eq] using hb,h⟩
theorem QR {tb:List (Nat×Option Bx)} {env':Env} {box':ay} {u':List Nat} {a:List Nat×List Nat} (hi:i+1=j) (hb:(tb.all (fun p=>Nat.blt p.1 (n0+8*i+8)))=true) (h1:dA dst x env=env') (h2:tb++box=box') (h3:tb.map (·.1)++u=u') (h4:(OpS.mk fp x tb).nm=a) (h:aJ P cx ops draw n0 rest j env' box' u' (a::acc) K):
 eP P cx ops draw n0 rest i env box u acc K dst ⟨fp,x,tb⟩:=by
 subst hi h1 h2 h3 h4
 refine⟨?_,h⟩
 simpa[Nat.blt_eq] using hb
theorem QS (hi:i+1=j) (h:aJ P cx ops draw n0 rest j ((d,.iff g x)::env) box u (([],[])::acc) K):fT P cx ops draw n0 rest i env box u acc K g (some d) ⟨[],x,[]⟩:=by
 subst hi;exact⟨by simp,h⟩
theorem QT {b:Nat} {bx:Bx} (hi:i+1=j) (h:aJ P cx ops draw n0 rest j ((d,.iff g x)::env) box u (([b],[])::acc) K):fT P cx ops draw n0 rest i env box u acc K g (some d) ⟨[(b,bx)],x,[]⟩:=by
 subst hi;exact⟨by simp,h⟩
theorem QU {b:Nat} {y:Bx} (hi:i+1=j) (hb:Nat.blt b (n0+8*i+8)=true) (ht:g=true→aJ P cx ops draw n0 rest j ((d,x)::env) ((b,some y)::box) (b::u) (([],[b])::acc) K) (hf:g=false→aJ P cx ops draw n0 rest j ((d,.iff false x)::env) box u (([],[])::acc) K):
 fT P cx ops draw n0 rest i env box u acc K g (some d) ⟨[],x,[(b,some y)]⟩:=by
 subst hi
 refine⟨by simpa[Nat.blt_eq] using hb,?_⟩
 simp only[List.all_cons,List.all_nil,Option.isNone_some,Bool.false_and]
 exact⟨ht,hf⟩
theorem QV {b b':Nat} {bx y:Bx} (hi:i+1=j) (hb:Nat.blt b (n0+8*i+8)=true) (ht:g=true→aJ P cx ops draw n0 rest j env ((b,some y)::box) (b::u) (([b'],[b])::acc) K) (hf:g=false→aJ P cx ops draw n0 rest j env box u (([b'],[])::acc) K):
 fT P cx ops draw n0 rest i env box u acc K g none ⟨[(b',bx)],x,[(b,some y)]⟩:=by
 subst hi
 refine⟨by simpa[Nat.blt_eq] using hb,?_⟩
 simp only[List.all_cons,List.all_nil,Option.isNone_some,Bool.false_and]
 exact⟨ht,hf⟩
theorem QW {tb:List (Nat×Option Bx)} {env':Env} {box':ay} {u':List Nat} {a r:List Nat×List Nat} (hi:i+1=j) (hb:(tb.all (fun p=>Nat.blt p.1 (n0+8*i+8)))=true) (hs:tb.all (fun p=>p.2.isNone)=false) (h1:dA dst x env=env') (h2:tb++box=box') (h3:tb.map (·.1)++u=u') (h4:(OpS.mk fp x tb).nm=a) (h5:((OpS.mk fp x tb).reads,([]:List Nat))=r)
 (ht:g=true→aJ P cx ops draw n0 rest j env' box' u' (a::acc) K) (hf:g=false→aJ P cx ops draw n0 rest j (dA dst (.iff false x) env) box u (r::acc) K):
 fT P cx ops draw n0 rest i env box u acc K g dst ⟨fp,x,tb⟩:=by
 subst hi h1 h2 h3 h4 h5
 refine⟨by simpa[Nat.blt_eq] using hb,?_⟩
 simp only[hs]
 exact⟨ht,hf⟩
theorem QX {tb:List (Nat×Option Bx)} {env':Env} {box':ay} {u':List Nat} {a:List Nat×List Nat} (hi:i+1=j) (hb:(tb.all (fun p=>Nat.blt p.1 (n0+8*i+8)))=true) (hs:tb.all (fun p=>p.2.isNone)=true) (h1:dA dst (.iff g x) env=env') (h2:tb++box=box') (h3:tb.map (·.1)++u=u') (h4:(OpS.mk fp x tb).nm=a)
 (h:aJ P cx ops draw n0 rest j env' box' u' (a::acc) K):fT P cx ops draw n0 rest i env box u acc K g dst ⟨fp,x,tb⟩:=by
 subst hi h1 h2 h3 h4
 refine⟨by simpa[Nat.blt_eq] using hb,?_⟩
 simp only[hs]
 exact h
def om (env:Env) (c:Call):Option (FuncId×List AV):=
 match c.callee with
 | .value (.func f)=>some (f,lm env c.args.toList)
 | .value y=>match az env y with
   | .fn (.func f) first caps=>some (f,first++(lm env c.args.toList++caps))
   | .v (.func (.func f) ⟨[]⟩ ⟨[]⟩)=>some (f,lm env c.args.toList)
   |_=>none
 |_=>none
theorem Im {hyp:Prop} {o:Oper} {cl:Call} {f:FuncId} {l:List AV} {K:OpS→Prop} (ho:o.op= .call cl) (h:om env cl=some (f,l)) (hc:gI hyp env cl.operands.toList) (hK:bW P cx hyp env box nm f l o K):iK P cx hyp env box nm o K:=by
 unfold iK
 rw[ho]
 refine⟨nZ hc,?_⟩
 unfold bX
 simp only[ho]
 unfold om at h
 unfold wZ
 rw[rD] at h
 split at h
 ·rename_i f' e1
  injection h with h;injection h with h1 h2;subst h1 h2
  simp only[e1]
  exact hK
 ·rename_i y hne e1
  split at h
  ·rename_i f' first caps e2
   injection h with h;injection h with h1 h2;subst h1 h2
   simp only[e1,e2]
   have:=hK
   rw[←List.append_assoc] at this
   exact this
  ·rename_i f' e2
   injection h with h;injection h with h1 h2;subst h1 h2
   simp only[e1,e2]
   exact hK
  ·cases h
 ·cases h
def lZ (cl:Call):List Operand:=match cl.callee with| .value f=>f::cl.args.toList| .invoke r _=>r::cl.args.toList| .builtin _=>cl.args.toList
theorem zI (cl:Call):cl.operands.toList=lZ cl:=by
 unfold Call.operands lZ
 split<;>simp_all
theorem QY {cl:Call} {f:FuncId} {l:List AV} (hS:om env cl=some (f,l)) (hn:n0+8*i=nm) (hK:bW P cx True env box nm f l {dst:=dst,op:= .call cl,type:=ty,pos:=pos,after:=after,guard:=none} (eP P cx ops draw n0 rest i env box u acc K dst)) (hc:gI True env (lZ cl)):
 aJ P cx ops draw n0 ({dst:=dst,op:= .call cl,type:=ty,pos:=pos,after:=after,guard:=none}::rest) i env box u acc K:=by
 subst hn
 rw[←zI] at hc
 exact Im (cx:=cx) (o:={dst:=dst,op:= .call cl,type:=ty,pos:=pos,after:=after,guard:=none}) rfl hS hc hK
theorem QZ {jj:Nat} {want:Bool} {cl:Call} {f:FuncId} {l:List AV} (hd:gH ops jj=some d) (hg:guardOf env want d=some g) (hS:om env cl=some (f,l)) (hn:n0+8*i=nm) (hK:bW P cx (g=true) env box nm f l {dst:=dst,op:= .call cl,type:=ty,pos:=pos,after:=after,guard:=some (jj,want)} (fT P cx ops draw n0 rest i env box u acc K g dst)) (hc:gI (g=true) env (lZ cl)):
 aJ P cx ops draw n0 ({dst:=dst,op:= .call cl,type:=ty,pos:=pos,after:=after,guard:=some (jj,want)}::rest) i env box u acc K:=by
 subst hn
 rw[←zI] at hc
 unfold aJ
 simp only[hd,hg]
 exact .inr (Im (cx:=cx) (o:={dst:=dst,op:= .call cl,type:=ty,pos:=pos,after:=after,guard:=some (jj,want)}) rfl hS hc hK)
theorem Q3 {hyp:Prop} {f:FuncId} {l xs:List AV} {o:Oper} {K:OpS→Prop} (hc:bn P f) (hF:Fun P f xs x) (hl:l=xs) (hd:xs.all AV.isData=true) (hK:K ⟨[],x,[]⟩):bW P cx hyp env box nm f l o K:=by
 subst hl
 exact bR hc hF hd hK
theorem zJ {hyp:Prop} {f:FuncId} {l xs:List AV} {o:Oper} {K:OpS→Prop} {pb:ay} {kb:List (Nat×Option Bx)} (ns:List Nat) (hc:bn P f) (hF:Fun P f xs x) (hp:bQ box ns=pb) (hl:bY pb pb=fp) (hk:kills fp=kb)
 (hfz:dx (fz pb 6) l xs) (hK:K ⟨fp,x,kb⟩):bW P cx hyp env box nm f l o K:=by
 subst hp hl hk
 exact Pw ns hc hF hfz hK
theorem Q4 {hyp:Prop} {f:FuncId} {l xs:List AV} {o:Oper} {K:OpS→Prop} {pb:ay} (ns:List Nat) (hc:bn P f) (hF:Fun P f xs x) (hp:bQ box ns=pb) (hl:bY pb pb=fp) (hx:x.flat0=true)
 (hfz:dx (fz pb 6) l xs) (hK:K ⟨fp,x,[]⟩):bW P cx hyp env box nm f l o K:=by
 subst hp hl
 exact Px ns hc hF hx hfz hK
theorem Q5 {hyp:Prop} {f:FuncId} {l args:List AV} {o:Oper} {K:OpS→Prop} {fp fp':List (Nat×Bx)} {tb tb':List (Nat×Option Bx)} {x':AV} (r:List Nat) (hc:bn P f) (hF:aC P f fp args x tb)
 (hl:l=args.map (AV.ren (look r))) (hs:(args.all (AV.names (inl fp))&&okF fp&&lg fp tb&&x.names (fun b=>inl fp b||inl tb b)&&mJ (look r) (lY fp++lh tb))=true) (h1:kZ (look r) fp=fp') (h2:fD (look r) tb=tb') (h3:x.ren (look r)=x') (hfp:rA box fp') (hfr:xn nm fp' tb')
 (hK:K ⟨fp',x',tb'⟩):bW P cx hyp env box nm f l o K:=by
 subst h1 h2 h3
 exact PL r hc hF hl hs hfp hfr hK
variable {Q:Exit→LS→Prop} {A:LS} {next:LS→Prop} {id id' n:Nat} {a b:Code}
theorem Q6 {l:List Oper} (hm:n+1000=m) (hs:Nat.ble (8*l.length) 1000=true) (h:∀K:Env→ay→Prop,(∀env box,Q .normal ⟨env,box,m⟩→K env box)→aJ P cx l.toArray draw n l 0 env box [] [] K):W P cx (.region id l.toArray draw) Q ⟨env,box,n⟩:=by
 subst hm
 exact h _ fun env box hq=>⟨n+1000,by have:=Nat.le_of_ble_eq_true hs;simp;omega,hq⟩
theorem Dp {y:Operand} {t:Bool} (hy:aI env y= .v (.bool t)) (h1:t=true→W P cx a Q ⟨env,box,n⟩) (h2:t=false→W P cx b Q ⟨env,box,n⟩):W P cx (.cond y a b) Q ⟨env,box,n⟩:=by
 simp only[W,hy]
 exact⟨h1,h2⟩
theorem Q7 {y:Operand} {p:Prop} (hy:aI env y= .bit p) (h1:p→W P cx a Q ⟨env,box,n⟩) (h2:W P cx b Q ⟨env,box,n⟩):W P cx (.cond y a b) Q ⟨env,box,n⟩:=by
 simp only[W,hy]
 exact⟨h1,h2⟩
theorem Q8 {y:Operand} (hy:aI env y= .v (.bool true)) (h:W P cx a Q ⟨env,box,n⟩):W P cx (.cond y a b) Q ⟨env,box,n⟩:=Dp hy (fun _=>h) (fun h=>by cases h)
theorem Q9 {y:Operand} (hy:aI env y= .v (.bool false)) (h:W P cx b Q ⟨env,box,n⟩):W P cx (.cond y a b) Q ⟨env,box,n⟩:=Dp hy (fun h=>by cases h) (fun _=>h)
def xy (P:Program) (rs:List ResultVar) (x:AV) (A:LS):Prop:=
 match rs,x with
  | [],.tup []=>True
  | [r],x=>dO P A.env A.box r fun y=>iE A.box y x
  | [r,s],.tup [x,x']=>dO P A.env A.box r fun y=>iE A.box y x∧dO P A.env A.box s fun y=>iE A.box y x'
  | [r,s,t],.tup [x,x',x'']=>dO P A.env A.box r fun y=>iE A.box y x∧dO P A.env A.box s fun y=>iE A.box y x'∧dO P A.env A.box t fun y=>iE A.box y x''
  |_,_=>False
theorem Ra {rs:Array ResultVar} {l:List ResultVar} (hr:rs=l.toArray) (h:xy P l x A):jb P rs x .ret A:=by subst hr;exact h
theorem Rb {rs:Array ResultVar} {l:List ResultVar} (hr:rs=l.toArray) (h:xy P l x A):jb P rs x .normal A:=by subst hr;exact h
def xz (P:Program) (rs:List ResultVar) (fp:List (Nat×Bx)) (x:AV) (tb:List (Nat×Option Bx)) (A:LS):Prop:=
 (uh A.box (zh tb fp)∧lg fp tb=true∧x.names (fun b=>inl fp b||inl tb b)=true)∧match rs,x with
   | [],.tup []=>True
   | [r],x=>dO P A.env A.box r fun y=>jN (fU A.box (tb++lives fp)) y x
   | [r,s],.tup [x,x']=>dO P A.env A.box r fun y=>jN (fU A.box (tb++lives fp)) y x∧dO P A.env A.box s fun y=>jN (fU A.box (tb++lives fp)) y x'
   | [r,s,t],.tup [x,x',x'']=>dO P A.env A.box r fun y=>jN (fU A.box (tb++lives fp)) y x∧dO P A.env A.box s fun y=>jN (fU A.box (tb++lives fp)) y x'∧dO P A.env A.box t fun y=>jN (fU A.box (tb++lives fp)) y x''
   |_,_=>False
theorem Rc {rs:Array ResultVar} {fp:List (Nat×Bx)} {tb:List (Nat×Option Bx)} {l:List ResultVar} (hr:rs=l.toArray) (h:xz P l fp x tb A):pQ P rs fp x tb .ret A:=by subst hr;exact h
theorem Re {rs:Array ResultVar} {fp:List (Nat×Bx)} {tb:List (Nat×Option Bx)} {l:List ResultVar} (hr:rs=l.toArray) (h:xz P l fp x tb A):pQ P rs fp x tb .normal A:=by subst hr;exact h
theorem Rf {args:List AV} (hA:dP args 0=env) (h:W P cx a Q ⟨env,box,n⟩):W P cx a Q ⟨dP args 0,box,n⟩:=by subst hA;exact h
theorem Rh {args:List AV} {bx:ay} (hA:dP args 0=env) (hB:bx=box) (h:W P cx a Q ⟨env,box,n⟩):W P cx a Q ⟨dP args 0,bx,n⟩:=by subst hA hB;exact h
theorem Ri (h:Q .normal A):ja id Q (.exit id) A:=by unfold ja;simpa using h
theorem Rj (hne:Nat.beq id' id=false) (h:Q (.exit id') A):ja id Q (.exit id') A:=by
 simp only[ja]
 rw[if_neg (by rintro rfl;simp at hne)]
 exact h
end
end
attribute [go_sem] reduceCtorEq Nat.reduceAdd Nat.reduceMul Nat.reduceEqDiff Nat.reduceLT Nat.reduceLeDiff Nat.reduceBEq Nat.reduceSub
theorem zK (s t:Nat) (x:AV) (r:Env):bf ((s,x)::r) t=if t=s then x else bf r t:=by simp only[bf]
theorem Rk (t:Nat):bf [] t= .any:=by simp only[bf]
theorem bq (c b:Nat) (r:Option Bx) (l:ay):ah ((c,r)::l) b=if b=c then r else ah l b:=by simp only[ah,ax]
theorem Rl (b:Nat):ah [] b=none:=by simp only[ah,ax]
theorem Rm (env:Env) (t:Tmp):aI env (.tmp t)=bf env t:=by simp only[aI]
theorem Rn (env:Env) (v:Value):aI env (.const v)= .v v:=by simp only[aI]
theorem Ro (env:Env) (g:Nat):aI env (.global g)= .v (.pointer (some ⟨g,0,none⟩)):=by simp only[aI]
theorem Rp (env:Env) (f:FuncId):aI env (.func f)= .v (.func (.func f) #[] #[]):=by simp only[aI]
theorem Rq (env:Env) (t:Tmp):az env (.tmp t)=(bf env t).strip:=by simp only[az,aI]
theorem Rs (env:Env) (v:Value):az env (.const v)= .v v:=by simp only[az,aI,AV.strip]
theorem Rt (env:Env) (g:Nat):az env (.global g)= .v (.pointer (some ⟨g,0,none⟩)):=by simp only[az,aI,AV.strip]
theorem Ru (env:Env) (f:FuncId):az env (.func f)= .v (.func (.func f) #[] #[]):=by simp only[az,aI,AV.strip]
theorem Rv {ti ti':Option TI} {x x':AV} {box:ay} {c c':Prop} (h1:ti=ti') (h2:x=x') (h3:c=c'):uj ti x box c=uj ti' x' box c':=by subst h1 h2 h3;rfl
theorem Rw {ti ti':Option TI} {x x' u u':AV} {box:ay} {c c':Prop} (h1:ti=ti') (h2:x=x') (h4:u=u') (h3:c=c'):uk ti x u box c=uk ti' x' u' box c':=by subst h1 h2 h3 h4;rfl
theorem Rx {P:Program} {k k':Option TK} {nm nm':Nat} {s s' x x':AV} {box:ay} {c c':Prop} (h1:k=k') (h5:nm=nm') (h2:s=s') (h4:x=x') (h3:c=c'):ul P k nm box s x c=ul P k' nm' box s' x' c':=by subst h1 h2 h3 h4 h5;rfl
theorem Ry {box:ay} {k k':Nat} {x x':AV} (h1:k=k') (h2:x=x'):rf box k x=rf box k' x':=by subst h1 h2;rfl
theorem Rz {box:ay} {d d':Nat} {x x' y y':AV} (h0:d=d') (h1:x=x') (h2:y=y'):fz box d x y=fz box d' x' y':=by subst h0 h1 h2;rfl
theorem RA {box:ay} {x x' y y':AV} (h1:x=x') (h2:y=y'):iE box x y=iE box x' y':=by subst h1 h2;rfl
def mM (cs:List AV):Nat→List AV
 |0=>[]
 |n+1=>cs++mM cs n
theorem RB {z:Value} {k:Nat} (hz:z.cells.toList.length=k) (hk:0<k) (n:Nat):lX z k n=mM (z.cells.toList.map .v) n:=by
 have key:∀n,(List.range (n*k)).map (fun i=>AV.v (z.cells.getD (i%k) undef))=mM (z.cells.toList.map .v) n:=by
  intro n
  induction n with
  |zero=>simp[mM]
  |succ n ih=>
   rw[mM,←ih,Nat.succ_mul,Nat.add_comm,List.range_add,List.map_append,List.map_map]
   congr 1
   ·apply List.ext_getElem
    ·simp[←hz]
    ·intro i h1 h2
     simp at h1 h2
     simp[Nat.mod_eq_of_lt h1,Array.getD_eq_getD_getElem?]
     rw[Array.getElem?_eq_getElem h2]
     rfl
   ·refine List.map_congr_left fun i _=> ?_
    simp
 exact key n
attribute [go_sem] RB mM beq_self_eq_true
def aH (b:Option Bx) (R:AV→AV→Prop) (k off n:Nat) (l:List (List AV)):Prop:=
 match b with
 |some bx=>off+n*k≤bx.cs.length∧(((bx.cs.drop off).take (n*k)=l.flatten∧∀r,r∈l→∀y,y∈r→y.isData=true)∨dx R ((bx.cs.drop off).take (n*k)) l.flatten)
 |none=>False
theorem uq (box:ay) (d b k off n:Nat) (f':Bool) (k':Nat) (l':List (List AV)):fz box (d+1) (.osl b k off n) (.sl f' k' l')=((f'=false∧k=k'∧0<k∧n=l'.length∧(∀r,r∈l'→r.length=k))∧aH (ah box b) (fz box d) k off n l'):=by
 rw[fz]
 unfold aH
 refine congrArg _ (propext ⟨?_,?_⟩)
 ·rintro⟨bx,h,h2⟩
  rw[h]
  exact h2
 ·intro h
  split at h
  ·rename_i bx hb
   exact⟨bx,hb,h⟩
  ·exact h.elim
def Dq (b:Option Bx) (R:AV→AV→Prop) (off:Nat) (l:List AV):Prop:=
 match b with
 |some bx=>dx R (bx.cs.drop off) l
 |none=>False
theorem RD (box:ay) (d b off:Nat) (l:List AV):fz box (d+1) (.ptr b off) (.pp l)=(l≠ []∧Dq (ah box b) (fz box d) off l):=by
 rw[fz]
 unfold Dq
 refine congrArg _ (propext ⟨?_,?_⟩)
 ·rintro⟨bx,h,h2⟩
  rw[h]
  exact h2
 ·intro h
  split at h
  ·rename_i bx hb
   exact⟨bx,hb,h⟩
  ·exact h.elim
def rE:List AV→Option (List Int)
 | []=>some []
 | .v (.int .i64 n)::l=>match rE l with
   |some r=>some (n::r)
   |none=>none
 |_=>none
theorem Io:∀(l:List AV),l.mapM AV.int?=rE l
 | []=>by simp[rE]
 |x::l=>by
  have ih:=Io l
  rw[List.mapM_cons,ih]
  unfold AV.int?
  split
  ·simp only[rE,Option.bind_eq_bind,Option.bind_some]
   cases rE l<;>rfl
  ·rename_i h
   rw[Option.bind_eq_bind,Option.bind_none]
   unfold rE
   split
   ·rename_i e;cases e
   ·rename_i n l' e;injection e with e1 e2;exact absurd e1 (h n)
   ·rfl
attribute [go_sem] Io rE
def mO:List AV→Option (List Sc)
 | []=>some []
 | .v (.int .i64 n)::l=>match mO l with
   |some r=>some (.i n::r)
   |none=>none
 | .v (.bool x)::l=>match mO l with
   |some r=>some (.b x::r)
   |none=>none
 |_=>none
theorem Ip:∀(l:List AV),l.mapM AV.sc?=mO l
 | []=>by simp[mO]
 |x::l=>by
  have ih:=Ip l
  rw[List.mapM_cons,ih]
  unfold AV.sc?
  split
  ·simp only[mO,Option.bind_eq_bind,Option.bind_some]
   cases mO l<;>rfl
  ·simp only[mO,Option.bind_eq_bind,Option.bind_some]
   cases mO l<;>rfl
  ·rename_i h1 h2
   rw[Option.bind_eq_bind,Option.bind_none]
   unfold mO
   split
   ·rename_i e;cases e
   ·rename_i n l' e;injection e with e1 e2;exact absurd e1 (h1 n)
   ·rename_i n l' e;injection e with e1 e2;exact absurd e1 (h2 n)
   ·rfl
attribute [go_sem] Ip mO
theorem RF (box:ay) (d:Nat) (a b:Value):fz box (d+1) (.v a) (.v b)=(a=b):=by rw[fz]
theorem RG (box:ay) (d:Nat) (f f':Bool) (k k':Nat) (l l':List (List AV)):fz box (d+1) (.sl f k l) (.sl f' k' l')=(k=k'∧l=l'∧(f'=true→f=true)):=by rw[fz]
theorem RH (box:ay) (d:Nat) (f:Bool) (k:Nat) (l:List (List AV)):fz box (d+1) (.v (.slice none 0 0)) (.sl f k l)=(l=[]):=by rw[fz]
theorem RI (box:ay) (d:Nat) (l l':List AV):fz box (d+1) (.pp l) (.pp l')=(l=l'):=by rw[fz]
theorem RJ (box:ay) (d:Nat) (f f':Fn) (l l' m m':List AV):fz box (d+1) (.fn f l m) (.fn f' l' m')=(f=f'∧dx (fz box d) l l'∧dx (fz box d) m m'):=by rw[fz]
theorem RL (box:ay) (d:Nat) (l l':List AV):fz box (d+1) (.agg l) (.agg l')=dx (fz box d) l l':=by rw[fz]
theorem RN (box:ay) (d:Nat) (l l':List AV):fz box (d+1) (.tup l) (.tup l')=dx (fz box d) l l':=by rw[fz]
theorem RO (box:ay) (x y:AV):iE box x y=fz box 6 x y:=rfl
theorem bS {α:Type} {F:α→List AV} {k:Nat} (hk:∀x,(F x).length=k) (l:List α):∀r,r∈l.map F→r.length=k:=by
 intro r hr
 obtain⟨x,-,rfl⟩:=List.mem_map.1 hr
 exact hk x
theorem dR {α:Type} {F:α→List AV} {k:Nat} {t:TypeId} {R:AV→AV→Prop} (hk:∀x,(F x).length=k) (hd:∀x,(F x).all AV.isData=true) (l:List α) {n:Nat} (hn:n=l.length):aH (some ⟨t,(l.map F).flatten⟩) R k 0 n (l.map F):=by
 subst hn
 have hl:=yS (l.map F) (bS hk l)
 rw[List.length_map] at hl
 refine⟨by rw[hl];omega,.inl ⟨by rw[List.drop_zero];exact List.take_of_length_le (by rw[hl];exact Nat.le_refl _),fun r hr y hy=> ?_⟩⟩
 obtain⟨x,-,rfl⟩:=List.mem_map.1 hr
 exact List.all_eq_true.1 (hd x) y hy
attribute [go_sem] uq RD RF RG RH RI RJ RL RN RO
attribute [go_sem] imp_self Dq true_or or_true or_false false_or
attribute [congr] Rv Rw Rx Ry Rz RA
theorem RP (s:Bool):((!s)=false)=(s=true):=by simp
theorem RQ (s:Bool):((!s)=true)=(s=false):=by simp
attribute [go_sem] List.all_toArray' Bool.not_not Option.isSome_some Option.isSome_none false_implies true_implies RP RQ Value.int.injEq Value.bool.injEq AV.v.injEq Bool.false_eq_true
@[go_sem] theorem arr_size {α:Type} (l:List α):l.toArray.size=l.length:=by simp
@[go_sem] theorem toL {α:Type} (l:List α):l.toArray.toList=l:=by simp
attribute [go_sem ↓] lZ zK Rk bq Rl Rm Rn Ro Rp Rq Rs Rt Ru oh om guardOf pU lm mK gI seconds
attribute [go_sem] Nat.beq xu zB zC zD xw ofV isConst fV zy zz uj uk zl zn zo zq Dk zt zu zw zx zA ul zF Dn zG zH bG tX
attribute [go_sem] ne_eq not_false_eq_true not_true_eq_false and_true true_and and_self implies_true forall_const
attribute [go_sem] List.all_cons List.all_nil List.any_cons List.any_nil List.length_cons List.length_nil List.cons_append List.nil_append List.append_nil List.map_cons List.map_nil List.drop_succ_cons List.drop_zero List.drop_nil List.take_succ_cons List.take_zero List.take_nil
 List.getElem?_cons_zero List.getElem?_cons_succ List.getElem?_nil List.flatten_cons List.flatten_nil Bool.and_true Bool.true_and Bool.and_false Bool.false_and Bool.or_true Bool.true_or Bool.or_false Bool.false_or Bool.not_true Bool.not_false Bool.cond_true Bool.cond_false Option.getD_some Option.getD_none Option.map_some Option.map_none Int.toNat_natCast decide_true decide_false Bool.and_self Bool.or_self
 List.isEmpty_cons List.isEmpty_nil List.filter_cons List.filter_nil List.reverse_cons Nat.zero_add Nat.add_zero Nat.zero_mul Nat.one_mul Nat.mul_one
attribute [go_sem] OJ OL OM OO OP OQ OT OU OV
attribute [go_sem] AV.strip dA eD splice AV.cells AV.flat AV.one kills placesOf wM jJ rf dP OpS.nm OpS.reads OpS.turns
 Op.operands Call.operands Value.oneCell' Value.cells xy xz dO dx bQ bY fU jN uh zh lives inl okF lg Bx.okN look rA xn kZ fD Bx.ren mJ lY lh AV.flat0
@[go_sem] theorem ib_add (k:IntKind) (a b:Int):bC .add k a b=some (.v (.int k (k.wrap (a+b)))):=by simp only[bC]
@[go_sem] theorem ib_sub (k:IntKind) (a b:Int):bC .sub k a b=some (.v (.int k (k.wrap (a-b)))):=by simp only[bC]
@[go_sem] theorem ib_mul (k:IntKind) (a b:Int):bC .mul k a b=some (.v (.int k (k.wrap (a*b)))):=by simp only[bC]
@[go_sem] theorem ib_eql (k:IntKind) (a b:Int):bC .eql k a b=some (.v (.bool (decide (a=b)))):=by simp only[bC];by_cases h:a=b<;>simp[h]
@[go_sem] theorem ib_neq (k:IntKind) (a b:Int):bC .neq k a b=some (.v (.bool (!decide (a=b)))):=by simp only[bC];by_cases h:a=b<;>simp[h]
@[go_sem] theorem ib_lss (k:IntKind) (a b:Int):bC .lss k a b=some (.v (.bool (decide (a<b)))):=by simp only[bC]
@[go_sem] theorem ib_leq (k:IntKind) (a b:Int):bC .leq k a b=some (.v (.bool (decide (a≤b)))):=by simp only[bC]
@[go_sem] theorem ib_gtr (k:IntKind) (a b:Int):bC .gtr k a b=some (.v (.bool (decide (b<a)))):=by simp only[bC];try rfl
@[go_sem] theorem ib_geq (k:IntKind) (a b:Int):bC .geq k a b=some (.v (.bool (decide (b≤a)))):=by simp only[bC];try rfl
@[go_sem] theorem ib_quo (k:IntKind) (a b:Int) (h:b≠0):bC .quo k a b=some (.v (.int k (k.wrap (a.tdiv b)))):=by simp only[bC,if_neg h]
@[go_sem] theorem Iq (k:IntKind) (a b:Int) (h:b≠0):bC .rem k a b=some (.v (.int k (a.tmod b))):=by simp only[bC,if_neg h]
theorem Dr (k:IntKind) (a b:Int) (h:0≤b):bC .shr k a b=some (.v (.int k (a.fdiv (2 ^ min b.toNat k.bits)))):=by simp only[bC,if_neg (Int.not_lt.2 h)]
@[go_sem] theorem ib_shr1 (k:IntKind) (a:Int):bC .shr k a 1=some (.v (.int k (a.fdiv 2))):=by rw[Dr _ _ _ (by decide)];cases k<;>rfl
@[go_sem] theorem ib_and (k:IntKind) (a b:Int):bC .and k a b=some (.v (.int k (k.wrap (BitVec.ofInt k.bits a&&& BitVec.ofInt k.bits b).toNat))):=by simp only[bC]
@[go_sem] theorem pickAV_t (x y:AV):nU true x y=x:=by rw[ww];rfl
@[go_sem] theorem pickAV_f (x y:AV):nU false x y=y:=by rw[ww];rfl
@[go_sem] theorem pickAV_and (t p:Bool):nU t (.v (.bool p)) (.v (.bool false))= .v (.bool (t&&p)):=by cases t<;>rw[ww]<;>rfl
@[go_sem] theorem pickAV_or (t q:Bool):nU t (.v (.bool true)) (.v (.bool q))= .v (.bool (t||q)):=by cases t<;>rw[ww]<;>rfl
attribute [go_sem] Option.toList_some Option.toList_none List.length_map List.length_append List.length_take List.length_drop List.getElem?_map
attribute [go_sem] LCut jM gY xe F8 F9 pF Ga Gb Cs vU vV vW Ct yJ yK Gc NN Gd Gf Gg Gh vX qU vY yL
attribute [go_sem] NI F7 yG yH NJ yI id_eq
section
variable {P:Program} {cx:Cx} {env:Env} {box:ay} {n0 i:Nat}
def Inv (P:Program) (t:TypeId) (name:String) (f:FuncId):Prop:=∀(v:Value) (us:Array Value) (w:World),(callMethod (.iface t v) name us).run P w= .ok (.enter f (#[v]++us)) w
theorem Ir {ι:Nat→Option Nat} {M:Nat→Prop} {w:World} {v:Value} {t:TypeId} {x:AV} (h:RepA ι M w v (.iface t x)):∃u,v= .iface t u∧RepA ι M w u x:=by
 generalize ha:AV.iface t x=a at h
 induction h with
 |iface h=>cases ha;exact⟨_,rfl,h⟩
 |d h=>subst ha;cases h
 |_=>cases ha
theorem RS {o:Oper} {ρ:Operand→AV} {c:Operand} {name:String} {t:TypeId} {x:AV} {f:FuncId} {args:Array Operand} {ats:Array TypeId} (ho:o.op= .call {callee:= .invoke c name,args:=args,argTypes:=ats}) (hf:ρ c= .iface t x) (hI:Inv P t name f):
 Enters P o ρ f (x::args.toList.map ρ):=by
 intro hc ι M a w hops
 have h1:=hops c (aM ho (by simp[Op.operands,Call.operands]))
 rw[hf] at h1
 obtain⟨u,hv,hu⟩:=Ir h1
 refine⟨#[u]++args.map a.eval,?_,by simp[Nat.add_comm],?_⟩
 ·have h2:=hI u (args.map a.eval) w
  have e0:(#[Value.iface t u]++args.map a.eval)[0]? =some (.iface t u):=by rw[Array.getElem?_append_left ai];rfl
  have e1:(args.map a.eval).extract 0 args.size=args.map a.eval:=by
   simp
  simp[execOp,ho,resolve,hv,invoke,e0,e1]
  exact h2
 ·intro i v y hv hy
  rcases i with _|i
  ·rw[Array.getElem?_append_left ai] at hv
   simp only[List.getElem?_cons_zero,List.getElem?_toArray,Option.some.injEq] at hv hy
   subst hv hy
   exact hu
  ·rw[Array.getElem?_append_right ai] at hv
   simp only[Array.size_singleton,Nat.add_sub_cancel,List.getElem?_cons_succ,Array.getElem?_map,Option.map_eq_some_iff,List.getElem?_map,Array.getElem?_toList] at hv hy
   obtain⟨p,hp,rfl⟩:=hv
   obtain⟨q,hq,rfl⟩:=hy
   rw[hp] at hq
   injection hq with hq
   subst hq
   exact hops p (aM ho (by
    simp only[Op.operands,Call.operands]
    exact Array.mem_append.2 (.inr (Array.mem_of_getElem? hp))))
def rF (env:Env) (c:Call):Option (TypeId×String×List AV):=
 match c.callee with
 | .invoke y name=>match az env y with
   | .iface t x=>some (t,name,x::lm env c.args.toList)
   |_=>none
 |_=>none
theorem Iu {hyp:Prop} {o:Oper} {cl:Call} {t:TypeId} {name:String} {f:FuncId} {nm:Nat} {l:List AV} {K:OpS→Prop} (ho:o.op= .call cl) (h:rF env cl=some (t,name,l)) (hI:Inv P t name f) (hc:gI hyp env cl.operands.toList) (hK:bW P cx hyp env box nm f l o K):iK P cx hyp env box nm o K:=by
 obtain⟨callee,args,ats⟩:=cl
 unfold iK
 rw[ho]
 refine⟨nZ hc,?_⟩
 unfold bX
 simp only[ho]
 unfold rF at h
 rw[rD] at h
 cases callee with
 |invoke y name'=>
  simp only at h
  split at h
  ·rename_i t' x e2
   injection h with h;injection h with h1 h;injection h with h2 h3;subst h1 h2 h3
   exact hK (RS ho e2 hI)
  ·cases h
 |value y=>cases h
 |builtin b=>cases h
variable {ops:Array Oper} {draw:Bool} {rest:List Oper} {u:List Nat} {acc:List (List Nat×List Nat)} {K:Env→ay→Prop} {dst:Option Tmp} {ty:TypeId} {pos:String} {after:Array Edge} {nm:Nat} {g:Bool} {d:Tmp}
theorem Iw {cl:Call} {t:TypeId} {name:String} {f:FuncId} {l:List AV} (hS:rF env cl=some (t,name,l)) (hn:n0+8*i=nm) (hI:Inv P t name f) (hK:bW P cx True env box nm f l {dst:=dst,op:= .call cl,type:=ty,pos:=pos,after:=after,guard:=none} (eP P cx ops draw n0 rest i env box u acc K dst)) (hc:gI True env (lZ cl)):
 aJ P cx ops draw n0 ({dst:=dst,op:= .call cl,type:=ty,pos:=pos,after:=after,guard:=none}::rest) i env box u acc K:=by
 subst hn
 rw[←zI] at hc
 exact Iu (cx:=cx) (o:={dst:=dst,op:= .call cl,type:=ty,pos:=pos,after:=after,guard:=none}) rfl hS hI hc hK
theorem Iy {jj:Nat} {want:Bool} {cl:Call} {t:TypeId} {name:String} {f:FuncId} {l:List AV} (hd:gH ops jj=some d) (hg:guardOf env want d=some g) (hS:rF env cl=some (t,name,l)) (hn:n0+8*i=nm) (hI:Inv P t name f) (hK:bW P cx (g=true) env box nm f l {dst:=dst,op:= .call cl,type:=ty,pos:=pos,after:=after,guard:=some (jj,want)} (fT P cx ops draw n0 rest i env box u acc K g dst)) (hc:gI (g=true) env (lZ cl)):
 aJ P cx ops draw n0 ({dst:=dst,op:= .call cl,type:=ty,pos:=pos,after:=after,guard:=some (jj,want)}::rest) i env box u acc K:=by
 subst hn
 rw[←zI] at hc
 unfold aJ
 simp only[hd,hg]
 exact .inr (Iu (cx:=cx) (o:={dst:=dst,op:= .call cl,type:=ty,pos:=pos,after:=after,guard:=some (jj,want)}) rfl hS hI hc hK)
attribute [go_sem ↓] rF
end
end Go.Proofs.YtlikpcpllahalaaGreat.V
