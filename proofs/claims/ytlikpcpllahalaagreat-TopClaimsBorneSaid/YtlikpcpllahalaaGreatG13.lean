/- Parts of the proof. -/
import Derived.Test.YtlikpcpllahalaaGreatG12
import Derived.LoopNIn
set_option linter.unusedSimpArgs false
set_option linter.unusedVariables false
namespace Go.Proofs.YtlikpcpllahalaaGreat.V
open Go.RowKit
variable {P:Program} {cx:Cx} {ops:Array Oper} {draw:Bool} {n0 i j nm m n:Nat} {rest:List Oper} {env:Env} {box:ay} {u:List Nat} {acc:List (List Nat×List Nat)} {K:Env→ay→Prop} {S:OpS} {c:Prop}
 {op:Op} {ty:TypeId} {pos:String} {after:Array Edge} {dst:Option Tmp} {d:Tmp} {x:AV} {fp:List (Nat×Bx)} {g:Bool} {Q:Exit→LS→Prop} {A:LS} {a b:Code}
def zL (p:Prop):Prop:=p
theorem xA {p:Prop} (h:p):zL p:=h
def iL (p:Prop):Prop:=p
theorem ce {p:Prop} (hn:0=0) (hy:p):iL p:=hy
def pV (P:Program) (cx:Cx) (ops:Array Oper) (draw:Bool) (n0:Nat) (o:Oper) (rest:List Oper) (i:Nat) (env:Env) (box:ay) (u:List Nat) (acc:List (List Nat×List Nat)) (K:Env→ay→Prop) (jj:Nat) (want:Bool) (d:Tmp) (g:Bool):Prop:=
 gH ops jj=some d→guardOf env want d=some g→aJ P cx ops draw n0 (o::rest) i env box u acc K
theorem RU {op:Op} {jj:Nat} {want:Bool} (hd:gH ops jj=some d) (hy:guardOf env want d=some g) (h:pV P cx ops draw n0 {dst:=dst,op:=op,type:=ty,pos:=pos,after:=after,guard:=some (jj,want)} rest i env box u acc K jj want d g):
 aJ P cx ops draw n0 ({dst:=dst,op:=op,type:=ty,pos:=pos,after:=after,guard:=some (jj,want)}::rest) i env box u acc K:=h hd hy
theorem RV {jj:Nat} {want:Bool} (hi:i+1=j) (h:aJ P cx ops draw n0 rest j (dA dst (.iff false (.v (.bool false))) env) box u (([],[])::acc) K):
 pV P cx ops draw n0 {dst:=dst,op:=op,type:=ty,pos:=pos,after:=after,guard:=some (jj,want)} rest i env box u acc K jj want d false:=fun hd hy=>QJ hd hy hi h
theorem RX {jj:Nat} {want:Bool} {y:Operand} {args:Array Operand} {ats:Array TypeId} {f:FuncId} {l:List AV} (hn:n0+8*i=nm) (hy:om env ⟨.value y,args,ats⟩=some (f,l))
 (hK:bW P cx (g=true) env box nm f l {dst:=dst,op:= .call ⟨.value y,args,ats⟩,type:=ty,pos:=pos,after:=after,guard:=some (jj,want)} (fT P cx ops draw n0 rest i env box u acc K g dst)) (hc:iL (gI (g=true) env (lZ ⟨.value y,args,ats⟩))):
 pV P cx ops draw n0 {dst:=dst,op:= .call ⟨.value y,args,ats⟩,type:=ty,pos:=pos,after:=after,guard:=some (jj,want)} rest i env box u acc K jj want d g:=fun hd hg=>QZ hd hg hy hn hK hc
theorem RY {jj:Nat} {want:Bool} (hn:n0+8*i=nm) (hy:oh P (g=true) env box nm op=some (S,c)) (hK:fT P cx ops draw n0 rest i env box u acc K g dst S) (hc:c):
 pV P cx ops draw n0 {dst:=dst,op:=op,type:=ty,pos:=pos,after:=after,guard:=some (jj,want)} rest i env box u acc K jj want d g:=fun hd hg=>QI hd hg hn hy hK hc
theorem RZ {y:Operand} {args:Array Operand} {ats:Array TypeId} {f:FuncId} {l:List AV} (hn:n0+8*i=nm) (hy:om env ⟨.value y,args,ats⟩=some (f,l))
 (hK:bW P cx True env box nm f l {dst:=dst,op:= .call ⟨.value y,args,ats⟩,type:=ty,pos:=pos,after:=after,guard:=none} (eP P cx ops draw n0 rest i env box u acc K dst)) (hc:iL (gI True env (lZ ⟨.value y,args,ats⟩))):
 aJ P cx ops draw n0 ({dst:=dst,op:= .call ⟨.value y,args,ats⟩,type:=ty,pos:=pos,after:=after,guard:=none}::rest) i env box u acc K:=QY hy hn hK hc
theorem R3 (hn:n0+8*i=nm) (hy:oh P True env box nm op=some (S,c)) (hK:eP P cx ops draw n0 rest i env box u acc K dst S) (hc:c):
 aJ P cx ops draw n0 ({dst:=dst,op:=op,type:=ty,pos:=pos,after:=after,guard:=none}::rest) i env box u acc K:=QH hn hy hK hc
def mP (P:Program) (cx:Cx) (a b:Code) (Q:Exit→LS→Prop) (env:Env) (box:ay) (n:Nat) (x:AV):Prop:=∀y,aI env y=x→W P cx (.cond y a b) Q ⟨env,box,n⟩
theorem R4 {y:Operand} (hy:aI env y=x) (h:mP P cx a b Q env box n x):W P cx (.cond y a b) Q ⟨env,box,n⟩:=h y hy
theorem R5 (h:W P cx a Q ⟨env,box,n⟩):mP P cx a b Q env box n (.v (.bool true)):=fun _ hy=>Q8 hy h
theorem R6 (h:W P cx b Q ⟨env,box,n⟩):mP P cx a b Q env box n (.v (.bool false)):=fun _ hy=>Q9 hy h
theorem R7 {t:Bool} (h1:t=true→W P cx a Q ⟨env,box,n⟩) (h2:t=false→W P cx b Q ⟨env,box,n⟩):mP P cx a b Q env box n (.v (.bool t)):=fun _ hy=>Dp hy h1 h2
theorem R8 {p:Prop} (h1:p→W P cx a Q ⟨env,box,n⟩) (h2:W P cx b Q ⟨env,box,n⟩):mP P cx a b Q env box n (.bit p):=fun _ hy=>Q7 hy h1 h2
theorem Iz {hyp:Prop} {f:FuncId} {l xs:List AV} {o:Oper} {K:OpS→Prop} (hc:bn P f) (hF:Fun P f xs x) (hl:l=xs) (hd:zL (xs.all AV.isData=true)) (hK:K ⟨[],x,[]⟩):bW P cx hyp env box nm f l o K:=Q3 hc hF hl hd hK
theorem aU {hyp:Prop} {f:FuncId} {l xs:List AV} {o:Oper} {K:OpS→Prop} {pb:ay} {kb:List (Nat×Option Bx)} (ns:List Nat) (hc:bn P f) (hF:Fun P f xs x) (hy:bQ box ns=pb) (hl:bY pb pb=fp) (hk:kills fp=kb)
 (hz:dx (fz pb 6) l xs) (hK:K ⟨fp,x,kb⟩):bW P cx hyp env box nm f l o K:=zJ ns hc hF hy hl hk hz hK
def ut (p:Prop):Prop:=p
theorem Dt {b:Bool} (h:b=true):dQ (b=true):=h
theorem Du {α:Type} {o:Option α} {y:α} (h:o=some y):dQ (o=some y):=h
theorem Dv {p:Prop} (h:p):ut p:=h
theorem Dw {p:Prop} (h:p):iL p:=h
def jd (p:Prop):Prop:=p
theorem Dx {p:Prop} (h:p):jd p:=h
def rG (p:Prop):Prop:=p
theorem Dy {p:Prop} (h:p):rG p:=h
def zM (p:Prop):Prop:=p
theorem Dz {p:Prop} (h:p):zM p:=h
def IA (p:Prop):Prop:=p
theorem DC {p:Prop} (h:p):IA p:=h
def IB (p:Prop):Prop:=p
theorem DD {p:Prop} (h:p):IB p:=h
def IC (p:Prop):Prop:=p
theorem DF {p:Prop} (h:p):IC p:=h
theorem kF:(∀(p:Prop) [Decidable p],(decide p=true)=p)∧(∀(p:Prop) [Decidable p],(decide p=false)= ¬p)∧(∀a b:Bool,((a&&b)=true)=(a=true∧b=true))∧(∀a b:Bool,((a||b)=true)=(a=true∨b=true))∧(∀a b:Bool,((a&&b)=false)=(a=false∨b=false))∧
 (∀a b:Bool,((a||b)=false)=(a=false∧b=false))∧(∀b:Bool,((!b)=true)=(b=false))∧(∀b:Bool,((!b)=false)=(b=true))∧(∀a b:Int,(¬a<b)=(b≤a))∧(∀a b:Int,(¬a≤b)=(b<a)):=by
 refine⟨fun p _=>by simp,fun p _=>by simp,fun a b=>by cases a<;>cases b<;>simp,fun a b=>by cases a<;>cases b<;>simp,fun a b=>by cases a<;>cases b<;>simp,fun a b=>by cases a<;>cases b<;>simp,fun b=>by simp,fun b=>by simp,fun a b=>by simp,fun a b=>by simp⟩
theorem Aa (h:aJ P cx ops draw n0 rest (i+1) ((d,x)::env) box u (([],[])::acc) K):eP P cx ops draw n0 rest i env box u acc K (some d) ⟨[],x,[]⟩:=QK rfl h
theorem Ab {b:Nat} {bx:Bx} (h:aJ P cx ops draw n0 rest (i+1) ((d,x)::env) box u (([b],[])::acc) K):eP P cx ops draw n0 rest i env box u acc K (some d) ⟨[(b,bx)],x,[]⟩:=QM rfl h
theorem Ac (h:aJ P cx ops draw n0 rest (i+1) env box u (([],[])::acc) K):eP P cx ops draw n0 rest i env box u acc K none ⟨[],x,[]⟩:=QL rfl h
theorem Ad (h:aJ P cx ops draw n0 rest (i+1) ((d,.iff g x)::env) box u (([],[])::acc) K):fT P cx ops draw n0 rest i env box u acc K g (some d) ⟨[],x,[]⟩:=QS rfl h
theorem Ae {b:Nat} {bx:Bx} (h:aJ P cx ops draw n0 rest (i+1) ((d,.iff g x)::env) box u (([b],[])::acc) K):fT P cx ops draw n0 rest i env box u acc K g (some d) ⟨[(b,bx)],x,[]⟩:=QT rfl h
theorem Af {b b':Nat} {r:Option Bx} {bx:Bx} (hb:dQ (Nat.blt b (n0+8*i+8)=true)) (h:aJ P cx ops draw n0 rest (i+1) env ((b,r)::box) (b::u) (([b'],[b])::acc) K):eP P cx ops draw n0 rest i env box u acc K none ⟨[(b',bx)],x,[(b,r)]⟩:=QO rfl hb h
theorem Ag {b:Nat} {r:Option Bx} (hb:dQ (Nat.blt b (n0+8*i+8)=true)) (h:aJ P cx ops draw n0 rest (i+1) ((d,x)::env) ((b,r)::box) (b::u) (([],[b])::acc) K):eP P cx ops draw n0 rest i env box u acc K (some d) ⟨[],x,[(b,r)]⟩:=QN rfl hb h
theorem Ah {b b' b0:Nat} {r r':Option Bx} {bx:Bx} (hb:dQ ((Nat.blt b (n0+8*i+8)&&Nat.blt b' (n0+8*i+8))=true)) (h:aJ P cx ops draw n0 rest (i+1) ((d,x)::env) ((b,r)::(b',r')::box) (b::b'::u) (([b0],[b,b'])::acc) K):
 eP P cx ops draw n0 rest i env box u acc K (some d) ⟨[(b0,bx)],x,[(b,r),(b',r')]⟩:=QP rfl hb h
theorem Ai {b b':Nat} {r:Option Bx} {bx:Bx} (hb:dQ (Nat.blt b (n0+8*i+8)=true)) (h:aJ P cx ops draw n0 rest (i+1) ((d,x)::env) ((b,r)::box) (b::u) (([b'],[b])::acc) K):eP P cx ops draw n0 rest i env box u acc K (some d) ⟨[(b',bx)],x,[(b,r)]⟩:=QQ rfl hb h
theorem Aj {jj:Nat} {want:Bool} (h:aJ P cx ops draw n0 rest (i+1) (dA dst (.iff false (.v (.bool false))) env) box u (([],[])::acc) K):
 pV P cx ops draw n0 {dst:=dst,op:=op,type:=ty,pos:=pos,after:=after,guard:=some (jj,want)} rest i env box u acc K jj want d false:=RV rfl h
theorem Ak {b:Nat} {y:Bx} (hb:dQ (Nat.blt b (n0+8*i+8)=true)) (ht:rG (g=true→aJ P cx ops draw n0 rest (i+1) ((d,x)::env) ((b,some y)::box) (b::u) (([],[b])::acc) K)) (hf:rG (g=false→aJ P cx ops draw n0 rest (i+1) ((d,.iff false x)::env) box u (([],[])::acc) K)):
 fT P cx ops draw n0 rest i env box u acc K g (some d) ⟨[],x,[(b,some y)]⟩:=QU rfl hb ht hf
theorem Al {b b':Nat} {bx y:Bx} (hb:dQ (Nat.blt b (n0+8*i+8)=true)) (ht:rG (g=true→aJ P cx ops draw n0 rest (i+1) env ((b,some y)::box) (b::u) (([b'],[b])::acc) K)) (hf:rG (g=false→aJ P cx ops draw n0 rest (i+1) env box u (([b'],[])::acc) K)):
 fT P cx ops draw n0 rest i env box u acc K g none ⟨[(b',bx)],x,[(b,some y)]⟩:=QV rfl hb ht hf
theorem Am {tb:List (Nat×Option Bx)} {env':Env} {box':ay} {u':List Nat} {a:List Nat×List Nat} (hb:dQ ((tb.all (fun p=>Nat.blt p.1 (n0+8*i+8)))=true)) (h1:jd (dA dst x env=env')) (h2:jd (tb++box=box')) (h3:jd (tb.map (·.1)++u=u')) (h4:jd ((OpS.mk fp x tb).nm=a)) (h:aJ P cx ops draw n0 rest (i+1) env' box' u' (a::acc) K):
 eP P cx ops draw n0 rest i env box u acc K dst ⟨fp,x,tb⟩:=QR rfl hb h1 h2 h3 h4 h
theorem An {tb:List (Nat×Option Bx)} {env':Env} {box':ay} {u':List Nat} {a:List Nat×List Nat} (hb:dQ ((tb.all (fun p=>Nat.blt p.1 (n0+8*i+8)))=true)) (hs:tb.all (fun p=>p.2.isNone)=true) (h1:jd (dA dst (.iff g x) env=env')) (h2:jd (tb++box=box')) (h3:jd (tb.map (·.1)++u=u')) (h4:jd ((OpS.mk fp x tb).nm=a))
 (h:aJ P cx ops draw n0 rest (i+1) env' box' u' (a::acc) K):fT P cx ops draw n0 rest i env box u acc K g dst ⟨fp,x,tb⟩:=QX rfl hb hs h1 h2 h3 h4 h
theorem Ao {tb:List (Nat×Option Bx)} {env':Env} {box':ay} {u':List Nat} {a r:List Nat×List Nat} (hb:dQ ((tb.all (fun p=>Nat.blt p.1 (n0+8*i+8)))=true)) (hs:tb.all (fun p=>p.2.isNone)=false) (h1:jd (dA dst x env=env')) (h2:jd (tb++box=box')) (h3:jd (tb.map (·.1)++u=u')) (h4:jd ((OpS.mk fp x tb).nm=a)) (h5:jd (((OpS.mk fp x tb).reads,([]:List Nat))=r))
 (ht:rG (g=true→aJ P cx ops draw n0 rest (i+1) env' box' u' (a::acc) K)) (hf:rG (g=false→aJ P cx ops draw n0 rest (i+1) (dA dst (.iff false x) env) box u (r::acc) K)):
 fT P cx ops draw n0 rest i env box u acc K g dst ⟨fp,x,tb⟩:=QW rfl hb hs h1 h2 h3 h4 h5 ht hf
theorem Ap (h:IC (mI ops acc)) (hK:K env box):aJ P cx ops true n0 [] i env box u acc K:=QF h hK
theorem Aq {p q:Prop} (h:dQ p) (h2:q):dQ p∧q:=⟨h,h2⟩
theorem Ar {p q:Prop} (h:dQ p) (h2:q):q∧dQ p:=⟨h2,h⟩
theorem As {y:Operand} {args:Array Operand} {ats:Array TypeId} {f:FuncId} {l:List AV} (hy:iL (om env ⟨.value y,args,ats⟩=some (f,l)))
 (hK:bW P cx True env box (n0+8*i) f l {dst:=dst,op:= .call ⟨.value y,args,ats⟩,type:=ty,pos:=pos,after:=after,guard:=none} (eP P cx ops draw n0 rest i env box u acc K dst)) (hc:iL (gI True env (lZ ⟨.value y,args,ats⟩))):
 aJ P cx ops draw n0 ({dst:=dst,op:= .call ⟨.value y,args,ats⟩,type:=ty,pos:=pos,after:=after,guard:=none}::rest) i env box u acc K:=RZ rfl hy hK hc
theorem At {jj:Nat} {want:Bool} {y:Operand} {args:Array Operand} {ats:Array TypeId} {f:FuncId} {l:List AV} (hy:iL (om env ⟨.value y,args,ats⟩=some (f,l)))
 (hK:bW P cx (g=true) env box (n0+8*i) f l {dst:=dst,op:= .call ⟨.value y,args,ats⟩,type:=ty,pos:=pos,after:=after,guard:=some (jj,want)} (fT P cx ops draw n0 rest i env box u acc K g dst)) (hc:iL (gI (g=true) env (lZ ⟨.value y,args,ats⟩))):
 pV P cx ops draw n0 {dst:=dst,op:= .call ⟨.value y,args,ats⟩,type:=ty,pos:=pos,after:=after,guard:=some (jj,want)} rest i env box u acc K jj want d g:=RX rfl hy hK hc
theorem Au (hy:iL (oh P True env box (n0+8*i) op=some (S,c))) (hK:eP P cx ops draw n0 rest i env box u acc K dst S) (hc:c):
 aJ P cx ops draw n0 ({dst:=dst,op:=op,type:=ty,pos:=pos,after:=after,guard:=none}::rest) i env box u acc K:=R3 rfl hy hK hc
theorem Av {op:Op} {jj:Nat} {want:Bool} (hd:IB (gH ops jj=some d)) (hy:iL (guardOf env want d=some g)) (h:pV P cx ops draw n0 {dst:=dst,op:=op,type:=ty,pos:=pos,after:=after,guard:=some (jj,want)} rest i env box u acc K jj want d g):
 aJ P cx ops draw n0 ({dst:=dst,op:=op,type:=ty,pos:=pos,after:=after,guard:=some (jj,want)}::rest) i env box u acc K:=RU hd hy h
theorem Aw {jj:Nat} {want:Bool} (hy:iL (oh P (g=true) env box (n0+8*i) op=some (S,c))) (hK:fT P cx ops draw n0 rest i env box u acc K g dst S) (hc:c):
 pV P cx ops draw n0 {dst:=dst,op:=op,type:=ty,pos:=pos,after:=after,guard:=some (jj,want)} rest i env box u acc K jj want d g:=RY rfl hy hK hc
theorem Ax {y:Operand} (hy:iL (aI env y=x)) (h:mP P cx a b Q env box n x):W P cx (.cond y a b) Q ⟨env,box,n⟩:=R4 hy h
theorem Ay {l:List Oper} {id:Nat} (hm:jd (n+1000=m)) (hs:dQ (Nat.ble (8*l.length) 1000=true)) (h:IA (∀K:Env→ay→Prop,(∀env box,Q .normal ⟨env,box,m⟩→K env box)→aJ P cx l.toArray draw n l 0 env box [] [] K)):W P cx (.region id l.toArray draw) Q ⟨env,box,n⟩:=Q6 hm hs h
theorem Az {t:Bool} (h1:zM (t=true→W P cx a Q ⟨env,box,n⟩)) (h2:zM (t=false→W P cx b Q ⟨env,box,n⟩)):mP P cx a b Q env box n (.v (.bool t)):=R7 h1 h2
theorem Ba {p:Prop} (h1:zM (p→W P cx a Q ⟨env,box,n⟩)) (h2:W P cx b Q ⟨env,box,n⟩):mP P cx a b Q env box n (.bit p):=R8 h1 h2
theorem Bb {rs:Array ResultVar} {l:List ResultVar} (hr:ut (rs=l.toArray)) (h:iL (xy P l x A)):jb P rs x .ret A:=Ra hr h
theorem Bc {rs:Array ResultVar} {l:List ResultVar} (hr:ut (rs=l.toArray)) (h:iL (xy P l x A)):jb P rs x .normal A:=Rb hr h
theorem Bd {rs:Array ResultVar} {fp:List (Nat×Bx)} {tb:List (Nat×Option Bx)} {l:List ResultVar} (hr:ut (rs=l.toArray)) (h:iL (xz P l fp x tb A)):pQ P rs fp x tb .ret A:=Rc hr h
theorem Be {rs:Array ResultVar} {fp:List (Nat×Bx)} {tb:List (Nat×Option Bx)} {l:List ResultVar} (hr:ut (rs=l.toArray)) (h:iL (xz P l fp x tb A)):pQ P rs fp x tb .normal A:=Re hr h
theorem Bf {id id':Nat} (hne:ut (Nat.beq id' id=false)) (h:Q (.exit id') A):ja id Q (.exit id') A:=Rj hne h
section
variable {id l:Nat} {next:LS→Prop}
theorem Ca (h:W P cx a Q ⟨env,box,n⟩):mP P cx a b Q env box n (.v (.bool true)):=R5 h
theorem Cb (h:W P cx b Q ⟨env,box,n⟩):mP P cx a b Q env box n (.v (.bool false)):=R6 h
theorem Cc (hK:K env box):aJ P cx ops false n0 [] i env box u acc K:=QG hK
theorem Cd (h:next A):gX next Q .normal A:=h
theorem Ce (h:Q .ret A):gX next Q .ret A:=h
theorem Cf (h:Q (.exit id) A):gX next Q (.exit id) A:=h
theorem Cg (h:Q .normal A):ja id Q .normal A:=h
theorem Ch (h:Q .ret A):ja id Q .ret A:=h
theorem Ci (h:Q .normal A):ja id Q (.exit id) A:=Ri h
theorem Cj (h:Q .normal A):W P cx .skip Q A:=h
theorem Ck (h:Q .normal A):W P cx (.label l) Q A:=h
theorem Cl (h:Q .ret A):W P cx .ret Q A:=h
theorem Cm (h:Q (.exit id) A):W P cx (.exit id) Q A:=h
theorem Cn (h:W P cx a (gX (fun A=>W P cx b Q A) Q) A):W P cx (.seq a b) Q A:=h
theorem Co (h:W P cx a (ja id Q) A):W P cx (.block id a) Q A:=h
theorem Cp (h:jL P cx a Q A):W P cx (.loop a) Q A:=h
end
attribute [go_sem] List.getD_cons_zero List.getD_cons_succ
end Go.Proofs.YtlikpcpllahalaaGreat.V
namespace Go.Proofs.YtlikpcpllahalaaGreat.V
open Go.RowKit
variable {P:Program} {cx:Cx} {c:Code} {Q:Exit→LS→Prop} {A:LS}
theorem R9 {ι:Nat→Option Nat} {M:Nat→Prop} {w:World} {v:Value} (b k off:Nat) (h:RepA ι M w v (.v (.slice none 0 0))):RepA ι M w v (.osl b k off 0):=by
 rw[h.ofV];exact .osl0 _ _ _ _
theorem IE {ι:Nat→Option Nat} {a:Go.Act} {w:World} {env:Env} {box:ay} {n:Nat} (tm b k:Nat) (ty:TypeId) (h0:bf env tm= .v (.slice none 0 0)) (hb:n≤b) (hs:Sat cx ι (bB env box n []) a w):
 Sat cx ι (bB ((tm,.osl b k 0 0)::env) ((b,some ⟨ty,[]⟩)::box) (b+1) []) a w:=by
 have hnu:¬(bB env box n []).used b:=by simp[bB];omega
 have hι:ι b=none:=by
  cases h:ι b with
  |none=>rfl
  |some g=>exact absurd (hs.h.dom b g h).1 hnu
 have hM:∀g,Mof cx ι (ah ((b,some ⟨ty,[]⟩)::box)) g→Mof cx ι (ah box) g:=by
  rintro g (h|⟨i,x,h1,h2⟩)
  ·exact .inl h
  ·rw[bq] at h1
   split at h1
   ·rename_i he;subst he;rw[hι] at h2;cases h2
   ·exact .inr ⟨i,x,h1,h2⟩
 refine⟨⟨hs.h.wi,hs.h.m0,hs.h.fix,fun i g h=>⟨?_,(hs.h.dom i g h).2⟩,fun i x h=> ?_,fun i x h=> ?_,fun i i' x x' g h1 h2 h3 h4=> ?_⟩,hs.size,hs.defers,fun t=> ?_⟩
 ·have:=(hs.h.dom i g h).1
  simp[bB] at this ⊢
  omega
 ·have h:ah ((b,some ⟨ty,[]⟩)::box) i=some x:=h
  rw[bq] at h
  split at h
  ·rename_i he;subst he;simp[bB]
  ·have:=hs.h.ub i x h
   simp[bB] at this ⊢
   omega
 ·have h':ah ((b,some ⟨ty,[]⟩)::box) i=some x:=h
  rw[bq] at h'
  by_cases he:i=b
  ·subst he
   rw[if_pos rfl] at h'
   injection h' with h'
   subst h'
   exact .inl ⟨rfl,hι⟩
  ·rw[if_neg he] at h'
   rcases hs.h.own i x h' with h1|⟨g,h1,h2,h3,c,h4,h5,h6⟩
   ·exact .inl h1
   ·exact .inr ⟨g,h1,h2,h3,c,h4,h5,fun j v y hv hy=>⟨(h6 j v y hv hy).1,(h6 j v y hv hy).2.less hM⟩⟩
 ·have h1:ah ((b,some ⟨ty,[]⟩)::box) i=some x:=h1
  have h2:ah ((b,some ⟨ty,[]⟩)::box) i'=some x':=h2
  rw[bq] at h1 h2
  split at h1
  ·rename_i he;subst he;rw[hι] at h3;cases h3
  ·split at h2
   ·rename_i he;subst he;rw[hι] at h4;cases h4
   ·exact hs.h.inj i i' x x' g h1 h2 h3 h4
 ·show RepA ι (Mof cx ι (ah ((b,some ⟨ty,[]⟩)::box))) w _ (bf ((tm,.osl b k 0 0)::env) t)
  rw[zK]
  have he:=(hs.env t).less hM
  split
  ·rename_i ht
   subst ht
   have he:RepA ι (Mof cx ι (ah ((b,some ⟨ty,[]⟩)::box))) w _ (bf env t):=he
   rw[h0] at he
   exact R9 b k 0 he
  ·exact he
theorem rH (tm b k:Nat) (ty:TypeId) (h0:bf A.env tm= .v (.slice none 0 0)) (hb:A.next≤b) (h:jL P cx c Q ⟨(tm,.osl b k 0 0)::A.env,(b,some ⟨ty,[]⟩)::A.box,b+1⟩):jL P cx c Q A:=
 fun ι a w hs=>h ι a w (IE tm b k ty h0 hb hs)
def uu (P:Program) (cx:Cx) (c:Code) (Q:Exit→LS→Prop):Nat→LS→Prop
 |0,_=>False
 |m+1,A=>W P cx c (gX (uu P cx c Q m) Q) A
theorem DI {P:Program} {cx:Cx} {c:Code} {Q:Exit→LS→Prop} {m:Nat} {A:LS} (h:W P cx c (gX (uu P cx c Q m) Q) A):uu P cx c Q (m+1) A:=h
theorem Sa {P:Program} {cx:Cx} {c:Code} {Q:Exit→LS→Prop} {A:LS} (hm:P.follows .mixedOrders=true) (m:Nat) (hok:dn cx.N c=true) (h:uu P cx c Q m A):jL P cx c Q A:=by
 intro ι a w hs
 refine wpIn_loop_rounds m ?_
 have key:∀(m:Nat) (A:LS) (ι:Nat→Option Nat) (a:Go.Act) (w:World),uu P cx c Q m A→Sat cx ι A.toAS a w→Code.roundsIn (aT cx.R) 9 P c (fun e a' w'=>∃ι' A',Sat cx ι' A' a' w'∧lift Q e A') m a w:=by
  intro m
  induction m with
  |zero=>intro A ι a w h;exact h.elim
  |succ m ih=>
   intro A ι a w h hs
   refine wpIn_mono (nX hm c _ A hok h ι a w hs) ?_
   rintro e a' w' ⟨ι',A',h1,L,rfl,hL⟩
   cases e with
   |normal=>exact ih L ι' a' w' hL h1
   |_=>exact⟨ι',L.toAS,h1,L,rfl,hL⟩
 exact key m A ι a w h hs
end Go.Proofs.YtlikpcpllahalaaGreat.V
namespace Go.Proofs.YtlikpcpllahalaaGreat.V
open Go.RowKit
variable {P:Program} {cx:Cx} {c a b:Code} {Q:Exit→LS→Prop} {A:LS}
theorem Sb (hm:P.follows .mixedOrders=true) (hok:dn cx.N c=true) (h:W P cx c Q A):aY P cx c Q A:=nX hm c Q A hok h
theorem Sd (hm:P.follows .mixedOrders=true) (hok:dn cx.N a=true) (h:W P cx a (gX (fun A=>aY P cx b Q A) Q) A):aY P cx (.seq a b) Q A:=by
 refine yN ((nX hm a _ A hok h).mono ?_)
 rintro e A' ⟨L,rfl,hL⟩
 cases e with
 |normal=>exact hL
 |_=>exact⟨L,rfl,hL⟩
theorem lq {f:FuncId} {fn:Func} {c:Code} {args:List AV} {x:AV} (hf:P.funcs[f]? =some fn) (hb:fn.body=some c) (hn:args.length≤fn.ntmps)
 (h:∀cx:Cx,cx.N=fn.ntmps→cx.R=none→cx.F=(fun _=>none)→args.all AV.lens=true→aY P cx c (jb P fn.results x) ⟨dP args 0,[],0⟩):Fun P f args x:=by
 refine G6 hf hb hn fun cx hN hR hF hL=> ?_
 have:=h cx hN hR hF hL
 have he:(⟨jK args,fun _=>none,fun _=>False⟩:AS)=LS.toAS ⟨dP args 0,[],0⟩:=by
  unfold LS.toAS bB
  congr 1
  ·funext t
   rw[uf]
   simp[jK]
  ·funext b
   simp
 rw[he]
 refine AWp.mono this ?_
 rintro e A ⟨L,rfl,hL⟩
 cases e with
 |normal=>exact xh hL
 |ret=>exact xh hL
 |_=>exact hL.elim
def uw (pb:ay) (y x:AV):Prop:=y=x∨fz pb 6 y x
def rJ (pb:ay) (env:Env):Env→Prop
 | []=>True
 |(t,x)::l=>uw pb (bf env t) x∧rJ pb env l
def xB (pb:ay):List AV→List AV→Prop
 | [],[]=>True
 |y::l,x::m=>uw pb y x∧xB pb l m
 |_,_=>False
def pW (ns:List Nat) (pb box:ay):ay→Prop
 | []=>True
 |(b,some x)::l=>(ns.contains b=false∧match ah box b with|some y=>y.t=x.t∧xB pb y.cs x.cs|none=>False)∧pW ns pb box l
 |(_,none)::l=>pW ns pb box l
theorem IG {pb:ay}:∀ {l m:List AV},xB pb l m→l.length=m.length∧∀(i:Nat) (x y:AV),l[i]? =some x→m[i]? =some y→uw pb x y
 | [],[],_=>⟨rfl,by simp⟩
 |x::l,y::m,h=>by
  obtain⟨h1,h2⟩:=IG h.2
  refine⟨by simp[h1],fun i a b ha hb=> ?_⟩
  rcases i with _|i
  ·simp at ha hb;subst ha hb;exact h.1
  ·exact h2 i a b (by simpa using ha) (by simpa using hb)
theorem II {pb:ay} {env:Env}:∀ {l:Env},rJ pb env l→∀t,bf l t= .any∨uw pb (bf env t) (bf l t)
 | [],_,t=> .inl rfl
 |(s,x)::l,h,t=>by
  simp only[bf]
  split
  ·rename_i ht;subst ht;exact .inr h.1
  ·exact II h.2 t
theorem pX {ns:List Nat} {pb box:ay}:∀ {l:ay},pW ns pb box l→∀b x,ah l b=some x→ns.contains b=false∧∃y,ah box b=some y∧y.t=x.t∧xB pb y.cs x.cs
 | [],_,b,x,h=>by simp[ah,ax] at h
 |(c,some z)::l,h,b,x,hx=>by
  rw[bq] at hx
  split at hx
  ·rename_i hb
   subst hb
   injection hx with hx
   subst hx
   refine⟨h.1.1,?_⟩
   have h2:=h.1.2
   split at h2
   ·rename_i y hy;exact⟨y,hy,h2⟩
   ·exact h2.elim
  ·exact pX h.2 b x hx
 |(c,none)::l,h,b,x,hx=>by
  rw[bq] at hx
  split at hx
  ·cases hx
  ·exact pX (l:=l) h b x hx
theorem IJ {box:ay} {b:Nat} {r:Option Bx}:∀ {ns:List Nat},(b,r)∈bQ box ns→b∈ns
 | [],h=>by simp[bQ] at h
 |c::l,h=>by
  rcases List.mem_cons.1 h with h|h
  ·injection h with h1 h2;subst h1;simp
  ·exact List.mem_cons_of_mem _ (IJ h)
theorem DJ {pb:ay} {b:Nat} {x:Bx}:∀ {l:ay},(b,x)∈bY pb l→∃r,(b,r)∈l
 | [],h=>by simp[bY] at h
 |(c,r)::l,h=>by
  unfold bY at h
  split at h
  ·rcases List.mem_cons.1 h with h|h
   ·injection h with h1 h2;subst h1;exact⟨r,by simp⟩
   ·obtain⟨r',h'⟩:=DJ h;exact⟨r',by simp[h']⟩
  ·obtain⟨r',h'⟩:=DJ h;exact⟨r',by simp[h']⟩
theorem DK {ι:Nat→Option Nat} {a:Go.Act} {w:World} {env env':Env} {box box' pb:ay} {n:Nat} (ns:List Nat) (hp:bQ box ns=pb) (he:rJ pb env env') (hb:pW ns pb box box') (hs:Sat cx ι (bB env box n []) a w):Sat cx ι (bB env' box' n []) a w:=by
 subst hp
 have hfp:∀b x,(b,x)∈bY (bQ box ns) (bQ box ns)→(bB env box n []).box b=some x:=fun b x h=>xg (nY h)
 have hns:∀b x,(b,x)∈bY (bQ box ns) (bQ box ns)→ns.contains b=true:=fun b x h=>by
  obtain⟨r,hr⟩:=DJ h
  simpa using IJ hr
 have hkeep:∀b x,ah box' b=some x→∃y,ax (ah box) (kills (bY (bQ box ns) (bQ box ns))) b=some y:=fun b x h=>by
  obtain⟨h1,y,h2,-⟩:=pX hb b x h
  refine⟨y,?_⟩
  have key:∀fp:List (Nat×Bx),(∀x,(b,x)∉fp)→ax (ah box) (kills fp) b=ah box b:=by
   intro fp
   induction fp with
   |nil=>intro _;rfl
   |cons p fp ih=>
    intro hq
    simp only[kills,List.map_cons,ax]
    rw[if_neg (by rintro rfl;exact hq p.2 ai)]
    exact ih fun x hx=>hq x (by simp[hx])
  rw[key _ fun x hx=>by have:=hns b x hx;rw[h1] at this;cases this]
  exact h2
 have hM:∀g,Mof cx ι (ah box') g→Mof cx ι (ax (ah box) (kills (bY (bQ box ns) (bQ box ns)))) g:=by
  rintro g (h|⟨i,x,h1,h2⟩)
  ·exact .inl h
  ·obtain⟨y,hy⟩:=hkeep i x h1
   exact .inr ⟨i,y,hy,h2⟩
 have hM2:∀g,Mof cx ι (ah box') g→Mof cx ι (ah box) g:=by
  rintro g (h|⟨i,x,h1,h2⟩)
  ·exact .inl h
  ·obtain⟨-,y,hy,-⟩:=pX hb i x h1
   exact .inr ⟨i,y,hy,h2⟩
 have hval:∀(v:Value) (y x:AV),uw (bQ box ns) y x→RepA ι (Mof cx ι (ah box)) w v y→RepA ι (Mof cx ι (ah box')) w v x:=by
  intro v y x hf hv
  rcases hf with rfl|hf
  ·exact hv.less hM2
  ·have h1:=tT hs.h hfp (kY _ hf) hv
   exact .d (h1.keep (fun g _ h=>hM g h) (Nat.le_refl _) (fun _ _ _=>rfl))
 refine⟨⟨hs.h.wi,hs.h.m0,hs.h.fix,hs.h.dom,fun i x h=> ?_,fun i x h=> ?_,fun i i' x x' g h1 h2 h3 h4=> ?_⟩,hs.size,hs.defers,fun t=> ?_⟩
 ·obtain⟨-,y,hy,-⟩:=pX hb i x h
  exact hs.h.ub i y hy
 ·obtain⟨-,y,hy,hty,hcs⟩:=pX hb i x h
  obtain⟨hl,hc⟩:=IG hcs
  rcases hs.h.own i y hy with⟨h1,h2⟩|⟨g,h1,h2,h3,cc,h4,h5,h6⟩
  ·exact .inl ⟨List.eq_nil_of_length_eq_zero (by rw[←hl,h1];rfl),h2⟩
  ·refine .inr ⟨g,h1,h2,h3,cc,by rw[←hty];exact h4,by rw[←hl];exact h5,fun j v z hv hz=> ?_⟩
   have hj:j<y.cs.length:=by rw[hl];exact(List.getElem?_eq_some_iff.1 hz).1
   have:=h6 j v _ hv (List.getElem?_eq_getElem hj)
   exact⟨this.1,hval v _ z (hc j _ z (List.getElem?_eq_getElem hj) hz) this.2⟩
 ·obtain⟨-,y,hy,-⟩:=pX hb i x h1
  obtain⟨-,y',hy',-⟩:=pX hb i' x' h2
  exact hs.h.inj i i' y y' g hy hy' h3 h4
 ·rcases II he t with h|h
  ·show RepA ι _ w _ (bf env' t)
   rw[h];exact .any _
  ·exact hval _ _ _ h (hs.env t)
theorem Sg {env:Env} {box pb:ay} {n:Nat} (ns:List Nat) (env':Env) (box':ay) (hp:bQ box ns=pb) (he:rJ pb env env') (hb:pW ns pb box box') (h:jL P cx c Q ⟨env',box',n⟩):jL P cx c Q ⟨env,box,n⟩:=
 fun ι a w hs=>h ι a w (DK ns hp he hb hs)
attribute [go_sem] uw rJ xB pW List.contains_cons List.contains_nil
end Go.Proofs.YtlikpcpllahalaaGreat.V
namespace Go.Proofs.YtlikpcpllahalaaGreat.V
open Go.RowKit
section
variable {P:Program} {b:Frame} {a:Go.Act} {k:List Item} {cs:List Frame} {w:World}
theorem rM {c:Code}:step P (lone (b.atR a (.code (.scope c)::k)) cs w)= .next (lone (b.atR a (.code c:: .inScope c::k)) cs w):=
 step_lone_go (by simp[stepG,stepG.exec,Frame.atR])
theorem IK {c:Code}:step P (lone (b.atR a (.inScope c::k)) cs w)= .next (lone (b.atR a k) cs w):=
 step_lone_go (by simp[stepG,stepG.exec,Frame.atR])
def IL (l:Nat) (J:Go.Act→World→Prop) (Q:Exit→Go.Act→World→Prop):Exit→Go.Act→World→Prop
 | .goto l',a,w=>l'=l∧J a w
 |e,a,w=>Q e a w
theorem IM {F:Fence} {n:Nat} {Q:Exit→Go.Act→World→Prop} {c rest:Code} {σ:Type} (l:Nat) (J:σ→Go.Act→World→Prop) (μ:σ→Nat) (hf:(∃s a w,J s a w)→findLabel c l=some rest)
 (first:c.wpIn F n P (IL l (fun a w=>∃s,J s a w) Q) a w)
 (pass:∀s a w,J s a w→rest.wpIn F n P (IL l (fun a' w'=>∃s',J s' a' w'∧μ s'<μ s) Q) a w):(Code.scope c).wpIn F n P Q a w:=by
 intro b k cs hro hb hr
 have h0:(lone (b.atR a (.code (.scope c)::k)) cs w).fenced P F:=fenced_calm hb hr rfl
 have hx:∀id,exitTo id (.inScope c::k)=exitTo id k:=fun id=>by simp[exitTo]
 have hg:(∃s a w,J s a w)→gotoIn l (.inScope c::k)=some (.code rest:: .inScope c::k):=fun h=>by simp[gotoIn,hf h]
 have key:∀m s a w,μ s=m→J s a w→∃e a' w',Q e a' w'∧ArrivesIn (Machine.fenced P F) P (lone (b.atR a (.code rest:: .inScope c::k)) cs w) b k cs e a' w':=by
  intro m
  induction m using Nat.strongRecOn with
  |_ m ih=>
   intro s a w hm hJ
   obtain⟨e,a₁,w₁,hq,harr⟩:=pass s a w hJ b (.inScope c::k) cs hro hb hr
   cases e with
   |normal=>exact⟨.normal,a₁,w₁,hq,StepsIn.trans harr (.one (fenced_calm hb hr rfl) IK)⟩
   |exit id=>exact⟨.exit id,a₁,w₁,hq,fun k' hk=>harr.1 k' (by rw[hx];exact hk),fun h1 h2=>harr.2 h1 (by rw[hx];exact h2)⟩
   |goto l'=>
    obtain⟨rfl,s',hJ',hlt⟩:=hq
    obtain⟨e₂,a₂,w₂,hq₂,harr₂⟩:=ih _ byOmega s' a₁ w₁ rfl hJ'
    exact⟨e₂,a₂,w₂,hq₂,.of_steps (harr.1 _ (hg ⟨s,a,w,hJ⟩)) harr₂⟩
   |ret=>exact⟨_,a₁,w₁,hq,harr⟩
   |panic ch=>exact⟨_,a₁,w₁,hq,harr⟩
   |outgrown=>exact⟨_,a₁,w₁,hq,harr⟩
 obtain⟨e,a₁,w₁,hq,harr⟩:=first b (.inScope c::k) cs hro hb hr
 cases e with
 |normal=>exact⟨.normal,a₁,w₁,hq,.head h0 rM (StepsIn.trans harr (.one (fenced_calm hb hr rfl) IK))⟩
 |exit id=>exact⟨.exit id,a₁,w₁,hq,fun k' hk=> .head h0 rM (harr.1 k' (by rw[hx];exact hk)),fun h1 h2=>let ⟨k₁,h3,h4⟩:=harr.2 h1 (by rw[hx];exact h2);⟨k₁,h3,.head h0 rM h4⟩⟩
 |goto l'=>
  obtain⟨rfl,s,hJ⟩:=hq
  obtain⟨e₂,a₂,w₂,hq₂,harr₂⟩:=key _ s a₁ w₁ rfl hJ
  exact⟨e₂,a₂,w₂,hq₂,.of_steps (.head h0 rM (harr.1 _ (hg ⟨s,_,_,hJ⟩))) harr₂⟩
 |ret=>exact⟨_,a₁,w₁,hq,.of_steps (.one h0 rM) harr⟩
 |panic ch=>exact⟨_,a₁,w₁,hq,.of_steps (.one h0 rM) harr⟩
 |outgrown=>exact⟨_,a₁,w₁,hq,.of_steps (.one h0 rM) harr⟩
end
section
variable {P:Program} {cx:Cx} {c:Code} {Q:Exit→LS→Prop} {A:LS}
def rO (l:Nat) (J:LS→Prop) (Q:Exit→LS→Prop):Exit→LS→Prop
 | .goto l',A=>l'=l∧J A
 |e,A=>Q e A
theorem IP {rest:Code} {σ:Type} (l:Nat) (I:σ→LS) (μ:σ→Nat) (hf:findLabel c l=some rest)
 (first:aY P cx c (rO l (fun A=>∃s r,LCut cx r A (I s)) Q) A)
 (pass:∀s,aY P cx rest (rO l (fun A=>∃s' r,LCut cx r A (I s')∧μ s'<μ s) Q) (I s)):aY P cx (.scope c) Q A:=by
 intro ι a w hs
 refine IM (σ:=σ) l (fun s a w=>∃ι,Sat cx ι (I s).toAS a w) μ (fun _=>hf) (wpIn_mono (first ι a w hs) ?_) (fun s a w hs=> ?_)
 ·rintro e a' w' ⟨ι',A',h1,L,rfl,hL⟩
  cases e with
  |goto l'=>
   obtain⟨rfl,s,r,hc⟩:=hL
   exact⟨rfl,s,_,h1.cut hc.cut⟩
  |_=>exact⟨ι',_,h1,L,rfl,hL⟩
 ·obtain⟨ι,hs⟩:=hs
  refine wpIn_mono (pass s ι a w hs) ?_
  rintro e a' w' ⟨ι',A',h1,L,rfl,hL⟩
  cases e with
  |goto l'=>
   obtain⟨rfl,s',r,hc,hm⟩:=hL
   exact⟨rfl,s',⟨_,h1.cut hc.cut⟩,hm⟩
  |_=>exact⟨ι',_,h1,L,rfl,hL⟩
theorem DL (h:aY P cx c (rO 0 (fun _=>False) Q) A):aY P cx (.scope c) Q A:=by
 intro ι a w hs
 refine IM (σ:=Empty) (rest:= .skip) 0 (fun s _ _=>nomatch s) (fun s=>nomatch s) (fun⟨s,_⟩=>nomatch s) (wpIn_mono (h ι a w hs) ?_) (fun s=>nomatch s)
 rintro e a' w' ⟨ι',A',h1,L,rfl,hL⟩
 cases e with
 |goto l'=>exact hL.2.elim
 |_=>exact⟨ι',_,h1,L,rfl,hL⟩
theorem Si {l:Nat} (h:Q (.goto l) A):aY P cx (.goto l) Q A:=fun ι _ _ hs=>wpIn_goto ⟨ι,_,hs,A,rfl,h⟩
variable {next J:LS→Prop} {l id:Nat}
theorem Da (h:Q (.goto l) A):W P cx (.goto l) Q A:=Si h
theorem Db (h:Q (.goto l) A):gX next Q (.goto l) A:=h
theorem Dc (h:Q (.goto l) A):ja id Q (.goto l) A:=h
theorem Dd (h:J A):rO l J Q (.goto l) A:=⟨rfl,h⟩
theorem De (h:Q .normal A):rO l J Q .normal A:=h
theorem Df (h:Q .ret A):rO l J Q .ret A:=h
theorem Dg (h:Q (.exit id) A):rO l J Q (.exit id) A:=h
end
@[go_sem] def gZ (a b c d x:Nat):Nat:=if x=a then b else if x=c then d else x
theorem iM {P:Program} {cx:Cx} {c:Code} {Q:Exit→LS→Prop} {A:LS} (h:aY P cx c (fun e L=>∃r L',LCut cx r L L'∧Q e L') A):aY P cx c Q A:=by
 intro ι a w hs
 refine wpIn_mono (h ι a w hs) ?_
 rintro e a' w' ⟨ι',A',hs',hq⟩
 obtain⟨L,rfl,r,L',hc,hq⟩:=hq
 exact⟨_,L'.toAS,hs'.cut hc.cut,L',rfl,hq⟩
end Go.Proofs.YtlikpcpllahalaaGreat.V
