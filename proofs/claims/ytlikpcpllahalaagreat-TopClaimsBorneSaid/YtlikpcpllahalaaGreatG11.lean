/- Parts of the proof. -/
import Derived.Test.YtlikpcpllahalaaGreatG10
set_option linter.unusedSimpArgs false
set_option linter.unusedVariables false
namespace Go.Proofs.YtlikpcpllahalaaGreat.V
open Go.RowKit
def dQ (p:Prop):Prop:=p
abbrev eU:=Option (OpS×Prop)
def uj (ti:Option TI) (x:AV) (box:ay) (c:Prop):eU:=
 match ti,x with
 |some i,.ptr b off=>match ah box b with
  |some bx=>match eD i.agg i.size off bx.cs with
   |some x=>some (⟨[(b,bx)],x,[]⟩,c∧bx.cs≠ [])
   |none=>none
  |none=>none
 |some i,.pp l=>match eD i.agg i.size 0 l with
  |some x=>some (⟨[],x,[]⟩,c)
  |none=>none
 |_,_=>none
def uk (ti:Option TI) (x u:AV) (box:ay) (c:Prop):eU:=
 match ti,x with
 |some i,.ptr b off=>match ah box b with
  |some bx=>some (⟨[(b,bx)],.v undef,[(b,some ⟨bx.t,splice bx.cs off u.cells⟩)]⟩,c∧u.flat=true∧u.cells.length=i.size∧off+i.size≤bx.cs.length∧0<i.size)
  |none=>none
 |_,_=>none
def zl (P:Program) (k:Option TK) (x:AV) (f:Nat) (c:Prop):eU:=
 match k with
 |some (.struct fs)=>match fs[f]? with
  |some (fo,ft)=>match tv P ft with
   |some j=>match x with
    | .ptr b off=>some (⟨[],.ptr b (off+fo),[]⟩,c∧j.size≠0)
    | .pp l=>some (⟨[],.pp (l.drop fo),[]⟩,c∧j.size≠0)
    |_=>none
   |none=>none
  |none=>none
 |_=>none
def zn (P:Program) (hyp:Prop) (k:Option TK) (x z:AV) (c:Prop):eU:=
 match k,z with
 |some (.slice e),.v (.int _ i)=>match tv P e with
  |some j=>match x with
   | .sl _ k l=>some (⟨[],.pp ((l[i.toNat]?).getD []),[]⟩,c∧k=j.size∧(hyp→0≤i∧i<l.length))
   | .osl b k off n=>some (⟨[],.ptr b (off+i.toNat*k),[]⟩,c∧k=j.size∧(hyp→0≤i∧i<n))
   |_=>none
  |none=>none
 |some (.array n e),.v (.int _ i)=>match tv P e with
  |some j=>match x with
   | .ptr b off=>some (⟨[],.ptr b (off+i.toNat*j.size),[]⟩,c∧(hyp→0≤i∧i<n))
   | .pp l=>some (⟨[],.pp (l.drop (i.toNat*j.size)),[]⟩,c∧(hyp→0≤i∧i<n))
   |_=>none
  |none=>none
 |_,_=>none
def xu (ti:Option TI):Bool:=match ti with
 |some i=>match i.k with
  | .slice _=>true
  |_=>false
 |none=>false
theorem Ij {P:Program} {t:TypeId} (h:xu (tv P t)=true):∃e,P.underlying t=some (.slice e):=by
 unfold xu at h
 split at h
 ·rename_i i hi
  split at h
  ·rename_i e he
   exact⟨e,ku hi he⟩
  ·cases h
 ·cases h
def zo (P:Program) (op:BinOp) (t:TypeId) (cy:Bool) (x y:AV) (c:Prop):eU:=
 match x,y with
 | .v (.int k a),.v (.int k' b)=>match bC op k a b with|some z=>some (⟨[],z,[]⟩,c∧k=k')|none=>none
 | .v (.bool a),.v (.bool b)=>match op with
   | .eql=>some (⟨[],.v (.bool (a==b)),[]⟩,c∧dQ (P.underlying t=some .bool))
   | .neq=>some (⟨[],.v (.bool (a != b)),[]⟩,c∧dQ (P.underlying t=some .bool))
   |_=>none
 | .sl _ _ l,.v (.slice none 0 0)=>some (⟨[],.bit (l=[]),[]⟩,c∧op= .eql∧xu (tv P t)=true)
 | .v (.slice A _ _),.v (.slice none 0 0)=>some (⟨[],.v (.bool A.isNone),[]⟩,c∧op= .eql∧xu (tv P t)=true)
 | .iface _ _,.v .nilIface=>some (⟨[],.v (.bool false),[]⟩,c∧op= .eql∧dQ (P.underlying t=some (.interface (P.methodsAt t))))
 | .v .nilIface,.v .nilIface=>some (⟨[],.v (.bool true),[]⟩,c∧op= .eql∧cy=true∧dQ (P.underlying t=some (.interface (P.methodsAt t))))
 | .agg xs,.agg ys=>match xs.mapM AV.int?,ys.mapM AV.int? with
   |some us,some vs=>match op with
    | .eql=>some (⟨[],.v (.bool (decide (us=vs))),[]⟩,c∧nW P t us.length∧us.length=vs.length)
    | .neq=>some (⟨[],.v (.bool (!decide (us=vs))),[]⟩,c∧nW P t us.length∧us.length=vs.length)
    |_=>none
   |_,_=>match xs.mapM AV.sc?,ys.mapM AV.sc? with
    |some us,some vs=>match op with
     | .eql=>some (⟨[],.v (.bool (decide (us=vs))),[]⟩,c∧CO P t us vs)
     | .neq=>some (⟨[],.v (.bool (!decide (us=vs))),[]⟩,c∧CO P t us vs)
     |_=>none
    |_,_=>none
 |_,_=>none
def zq (op:UnOp) (x:AV) (c:Prop):eU:=
 match op,x with
 | .not,.v (.bool b)=>some (⟨[],.v (.bool !b),[]⟩,c)
 | .neg,.v (.int k n)=>some (⟨[],.v (.int k (k.wrap (0-n))),[]⟩,c)
 |_,_=>none
def Dk (nm:Nat) (t:TypeId) (x:AV) (c:Prop):eU:=some (⟨[],.ptr nm 0,[(nm,some ⟨t,x.cells⟩)]⟩,c∧x.flat=true)
def zt (ti:Option TI) (nm:Nat) (t:TypeId):eU:=
 match ti with
 |some i=>some (⟨[],.ptr nm 0,[(nm,some ⟨t,i.zero.cells.toList.map .v⟩)]⟩,i.zero.cells.all (·.oneCell')=true)
 |none=>none
def zu (P:Program) (ti:Option TI) (parts:List (Nat×AV)) (c:Prop):eU:=
 match ti with
 |some i=>match i.k with
  | .struct fs=>match jJ (fun j=>(placesOf P fs)[j]?) (i.zero.cells.toList.map .v) parts with
    |some l=>some (⟨[],.agg l,[]⟩,c∧i.zero.cells.all (·.oneCell')=true∧wM P fs=true)
    |none=>none
  | .array _ e=>match tv P e with
    |some j=>match jJ (fun m=>some (m*j.size,j.size)) (i.zero.cells.toList.map .v) parts with
     |some l=>some (⟨[],.agg l,[]⟩,c∧i.zero.cells.all (·.oneCell')=true)
     |none=>none
    |none=>none
  |_=>none
 |none=>none
def zw (P:Program) (k:Option TK) (nm len:Nat) (parts:List (Nat×AV)) (c:Prop):eU:=
 match k with
 |some (.slice e)=>match tv P e with
  |some j=>match jJ (fun m=>some (m*j.size,j.size)) (lX j.zero j.size len) parts with
   |some l=>some (⟨[],.osl nm j.size 0 len,[(nm,some ⟨e,l⟩)]⟩,c∧j.zero.cells.size=j.size∧0<j.size∧j.zero.cells.all (·.oneCell')=true∧len*j.size≤16777216)
   |none=>none
  |none=>none
 |_=>none
def zx (P:Program) (k:Option TK) (x:AV) (lo hi mx:Option AV) (c:Prop):eU:=
 match k,x with
 |some (.slice e),.sl full k l=>match tv P e,lo,hi,mx with
  |some j,none,none,none=>some (⟨[],.sl full k l,[]⟩,c∧k=j.size)
  |some j,some (.v (.int .i64 a)),none,none=>some (⟨[],.sl full k (l.drop a.toNat),[]⟩,c∧k=j.size∧0≤a∧a≤l.length)
  |some j,none,some (.v (.int .i64 b)),none=>some (⟨[],.sl (full&&decide (b.toNat=l.length)) k (l.take b.toNat),[]⟩,c∧k=j.size∧0≤b∧b≤l.length)
  |some j,some (.v (.int .i64 a)),some (.v (.int .i64 b)),none=>some (⟨[],.sl (full&&decide (b.toNat=l.length)) k ((l.take b.toNat).drop a.toNat),[]⟩,c∧k=j.size∧0≤a∧a≤b∧b≤l.length)
  |some j,none,some (.v (.int .i64 b)),some (.v (.int .i64 m))=>some (⟨[],.sl true k (l.take b.toNat),[]⟩,c∧k=j.size∧0≤b∧b≤l.length∧m=b)
  |some j,some (.v (.int .i64 a)),some (.v (.int .i64 b)),some (.v (.int .i64 m))=>some (⟨[],.sl true k ((l.take b.toNat).drop a.toNat),[]⟩,c∧k=j.size∧0≤a∧a≤b∧b≤l.length∧m=b)
  |_,_,_,_=>none
 |some (.slice e),.osl bx k off n=>match tv P e,lo,hi,mx with
  |some j,none,none,none=>some (⟨[],.osl bx k off n,[]⟩,c∧k=j.size)
  |some j,some (.v (.int .i64 a)),none,none=>some (⟨[],.osl bx k (off+a.toNat*k) (n-a.toNat),[]⟩,c∧k=j.size∧0≤a∧a≤n)
  |some j,none,some (.v (.int .i64 b)),none=>some (⟨[],.osl bx k off b.toNat,[]⟩,c∧k=j.size∧0≤b∧b≤n)
  |some j,some (.v (.int .i64 a)),some (.v (.int .i64 b)),none=>some (⟨[],.osl bx k (off+a.toNat*k) (b.toNat-a.toNat),[]⟩,c∧k=j.size∧0≤a∧a≤b∧b≤n)
  |_,_,_,_=>none
 |some (.array n e),.pp l=>match tv P e,lo,hi,mx with
  |some j,none,none,none=>some (⟨[],.sl false 1 ((l.take n).map fun x=>[x]),[]⟩,c∧j.size=1∧n≤l.length∧n≤1000000)
  |_,_,_,_=>none
 |_,_=>none
def zy (P:Program) (s d:TypeId) (ti:Option TI) (x:AV) (c:Prop):eU:=
 match ti,x with
 |some i,.v (.int _ n)=>match i.zero with
  | .int k _=>some (⟨[],.v (.int k (k.wrap n)),[]⟩,c∧dQ (P.underlying d=some (.int k))∧dQ ((P.underlying s).isSome=true))
  |_=>none
 |_,_=>none
def zz (P:Program) (tk:Option TK) (nm:Nat) (x y:AV) (c:Prop):eU:=
 match tk,x,y with
 |some (.slice e),.v (.int .i64 n),.v (.int .i64 m)=>match tv P e with
  |some j=>some (⟨[],.osl nm j.size 0 n.toNat,[(nm,some ⟨e,lX j.zero j.size n.toNat⟩)]⟩,c∧j.zero.cells.size=j.size∧0<j.size∧j.zero.cells.all (·.oneCell')=true∧0≤n∧n≤m∧m.toNat*j.bytes≤140737488355328∧m.toNat≤maxLen)
  |none=>none
 |_,_,_=>none
def zA (k:Option TK) (x:AV) (c:Prop):eU:=
 match k with
 |some (.slice _)=>match x with
  | .sl _ _ l=>some (⟨[],int l.length,[]⟩,c)
  | .osl _ _ _ n=>some (⟨[],int n,[]⟩,c)
  | .v (.slice _ n _)=>some (⟨[],int n,[]⟩,c)
  |_=>none
 |_=>none
def ul (P:Program) (k:Option TK) (nm:Nat) (box:ay) (s x:AV) (c:Prop):eU:=
 match k with
 |some (.slice e)=>match tv P e with
  |some j=>match rf box j.size x with
   |some (fpx,m,news)=>match s with
    | .osl b0 k 0 n=>match ah box b0 with
      |some bx=>some (⟨(b0,bx)::fpx,.osl nm k 0 (n+m),[(b0,none),(nm,some ⟨e,bx.cs++news⟩)]⟩,c∧j.zero.cells.size=j.size∧0<j.size∧(fpx.all (fun p=>decide (p.1≠nm))=true)∧(k=j.size∧bx.cs.length=n*k∧bx.t=e∧nm≠b0)∧(n+m≤maxLen∧(n+m)*j.bytes≤140737488355328))
      |none=>none
    | .sl full k l=>some (⟨fpx,.osl nm k 0 (l.length+m),[(nm,some ⟨e,l.flatten++news⟩)]⟩,c∧j.zero.cells.size=j.size∧0<j.size∧(fpx.all (fun p=>decide (p.1≠nm))=true)∧(full=true∧k=j.size)∧(0<m∨l=[])∧(l.length+m≤maxLen∧(l.length+m)*j.bytes≤140737488355328))
    | .v (.slice none 0 0)=>some (⟨fpx,.osl nm j.size 0 m,[(nm,some ⟨e,news⟩)]⟩,c∧j.zero.cells.size=j.size∧0<j.size∧(fpx.all (fun p=>decide (p.1≠nm))=true)∧m≤maxLen∧m*j.bytes≤140737488355328)
    |_=>none
   |none=>none
  |none=>none
 |_=>none
def zB (P:Program) (ti:Option TypeDesc) (x k:AV) (comma:Bool) (c:Prop):eU:=
 match x,k,ti with
 | .mp es _,.v (.int .i64 n),some (.map kt et)=>match Instr.findNow (.int .i64) (.int .i64 n) es.toList 0 with
   |some (some (_,v))=>some (⟨[],.tup [ofV v,.v (.bool true)],[]⟩,c∧comma=true∧dQ (P.underlying kt=some (.int .i64)))
   |some none=>match tv P et with
    |some i=>some (⟨[],.tup [.v i.zero,.v (.bool false)],[]⟩,c∧comma=true∧dQ (P.underlying kt=some (.int .i64)))
    |none=>none
   |none=>none
 |_,_,_=>none
def zC (ti:Option TI) (t:TypeId) (x:AV) (comma:Bool) (c q:Prop):eU:=
 match comma with
 |false=>match x with
  | .iface s y=>match Nat.beq s t with
    |true=>some (⟨[],y,[]⟩,c∧q)
    |false=>none
  |_=>none
 |true=>match ti with
  |some i=>match i.k with
   | .struct _=>match x with
     | .iface s y=>match Nat.beq s t with
       |true=>some (⟨[],.tup [y,.v (.bool true)],[]⟩,c∧True)
       |false=>some (⟨[],.tup [.v i.zero,.v (.bool false)],[]⟩,c∧True)
     | .v .nilIface=>some (⟨[],.tup [.v i.zero,.v (.bool false)],[]⟩,c∧True)
     |_=>none
   |_=>none
  |none=>none
def zD (P:Program) (hyp:Prop) (k:Option TK) (x z:AV) (c:Prop):eU:=
 match k,x,z with
 |some (.array n e),.agg l,.v (.int _ i)=>match tv P e with
  |some j=>match eD j.agg j.size (i.toNat*j.size) l with
   |some y=>some (⟨[],y,[]⟩,c∧(hyp→0≤i∧i<n))
   |none=>none
  |none=>none
 |_,_,_=>none
def xw (mx:Bool) (x y:AV) (c:Prop):eU:=
 match x,y with
 | .v (.int k a),.v (.int k' b)=>some (⟨[],.v (.int k (cond mx (max a b) (min a b))),[]⟩,c∧k=k')
 |_,_=>none
def zF (x:AV) (i:Nat) (c:Prop):eU:=match x with| .tup l=>(match l[i]? with|some y=>some (⟨[],y,[]⟩,c)|none=>none)|_=>none
def zG (P:Program) (k:Option TK) (x:AV) (f:Nat) (c:Prop):eU:=
 match k,x with
 |some (.struct fs),.agg l=>match fs[f]? with
  |some (fo,ft)=>match tv P ft with
   |some j=>match eD j.agg j.size fo l with
    |some y=>some (⟨[],y,[]⟩,c)
    |none=>none
   |none=>none
  |none=>none
 |_,_=>none
def zH (hyp:Prop) (x p q p' q':AV) (c:Prop):eU:=
 match x with
 | .v (.bool t)=>some (⟨[],nU t p q,[]⟩,c∧tX hyp t true p'∧tX hyp t false q')
 |_=>none
def gI (hyp:Prop) (env:Env):List Operand→Prop
 | []=>True
 | [y]=>bG hyp (aI env y)
 |y::l=>bG hyp (aI env y)∧gI hyp env l
theorem nZ {hyp:Prop} {env:Env}:∀ {l:List Operand},gI hyp env l→tY hyp env l
 | [],_=>trivial
 | [_],h=>⟨h,trivial⟩
 |_::_::_,h=>⟨h.1,nZ h.2⟩
def pU (env:Env):List (Nat×Operand)→List (Nat×AV)
 | []=>[]
 |(i,y)::l=>(i,az env y)::pU env l
theorem Dl {env:Env}:∀(l:List (Nat×Operand)),pU env l=l.map fun p=>(p.1,az env p.2)
 | []=>rfl
 |(i,y)::l=>by rw[pU,Dl l];rfl
def lm (env:Env):List Operand→List AV
 | []=>[]
 |y::l=>az env y::lm env l
theorem rD {env:Env}:∀(l:List Operand),lm env l=l.map (az env)
 | []=>rfl
 |y::l=>by rw[lm,rD l];rfl
def mK (env:Env):Option Operand→Option AV
 |none=>none
 |some y=>some (az env y)
def seconds:List (Nat×Operand)→List Operand
 | []=>[]
 |(_,y)::l=>y::seconds l
theorem Dm:∀(l:List (Nat×Operand)),seconds l=l.map (·.2)
 | []=>rfl
 |(i,y)::l=>by rw[seconds,Dm l];rfl
def fV (ti:Option TI):Option TK:=match ti with|some i=>some i.k|none=>none
theorem og (ti:Option TI):ti.map TI.k=fV ti:=by cases ti<;>rfl
def Dn (x:AV) (c:Prop):eU:=match x with| .ptr b off=>some (⟨[],.ptr b off,[]⟩,c)|_=>none
def oh (P:Program) (hyp:Prop) (env:Env) (box:ay) (nm:Nat):Op→eU
 | .pick c p q=>zH hyp (az env c) (az env p) (az env q) (aI env p) (aI env q) (bG hyp (aI env c))
 | .move y=>some (⟨[],az env y,[]⟩,bG hyp (aI env y))
 | .assign y=>some (⟨[],az env y,[]⟩,bG hyp (aI env y))
 | .load t y=>uj (tv P t) (az env y) box (bG hyp (aI env y))
 | .store t y u=>uk (tv P t) (az env y) (az env u) box (bG hyp (aI env y)∧bG hyp (aI env u))
 | .fieldAddr s y f=>zl P (fV (tv P s)) (az env y) f (bG hyp (aI env y))
 | .indexAddr t y z=>zn P hyp (fV (tv P t)) (az env y) (az env z) (bG hyp (aI env y)∧bG hyp (aI env z))
 | .binOp op t x y _=>zo P op t (isConst y) (az env x) (az env y) (bG hyp (aI env x)∧bG hyp (aI env y))
 | .unOp op _ x=>zq op (az env x) (bG hyp (aI env x))
 | .box t y=>Dk nm t (az env y) (bG hyp (aI env y))
 | .alloc t=>zt (tv P t) nm t
 | .build t parts=>zu P (tv P t) (pU env parts.toList) (gI hyp env (seconds parts.toList))
 | .buildSlice t len parts=>zw P (fV (tv P t)) nm len (pU env parts.toList) (gI hyp env (seconds parts.toList))
 | .slice t y lo hi mx=>zx P (fV (tv P t)) (az env y) (mK env lo) (mK env hi) (mK env mx) (gI hyp env ([y]++lo.toList++hi.toList++mx.toList))
 | .convert s d x=>zy P s d (tv P d) (az env x) (bG hyp (aI env x))
 | .makeSlice t x y=>zz P (fV (tv P t)) nm (az env x) (az env y) (bG hyp (aI env x)∧bG hyp (aI env y))
 | .extract x i=>zF (az env x) i (bG hyp (aI env x))
 | .field t x f=>zG P (fV (tv P t)) (az env x) f (bG hyp (aI env x))
 | .makeFunc f first caps=>some (⟨[],.fn f (lm env first.toList) (lm env caps.toList),[]⟩,gI hyp env (first.toList++caps.toList))
 | .makeInterface t y=>some (⟨[],.iface t (az env y),[]⟩,bG hyp (aI env y)∧dQ (P.concrete t=true))
 | .typeAssert y _ t comma=>zC (tv P t) t (az env y) comma (bG hyp (aI env y)) (dQ (P.concrete t=true))
 | .index t y z=>zD P hyp (fV (tv P t)) (az env y) (az env z) (bG hyp (aI env y)∧bG hyp (aI env z))
 | .lookup t m k comma=>zB P (P.underlying t) (az env m) (az env k) comma (bG hyp (aI env m)∧bG hyp (aI env k))
 | .call {callee:= .builtin .max,args:=⟨[x,y]⟩,argTypes:=_}=>xw true (az env x) (az env y) (bG hyp (aI env x)∧bG hyp (aI env y))
 | .call {callee:= .builtin .min,args:=⟨[x,y]⟩,argTypes:=_}=>xw false (az env x) (az env y) (bG hyp (aI env x)∧bG hyp (aI env y))
 | .call {callee:= .builtin .len,args:=⟨[y]⟩,argTypes:=⟨[t]⟩}=>zA (fV (tv P t)) (az env y) (bG hyp (aI env y))
 | .call {callee:= .builtin .append,args:=⟨[s,x]⟩,argTypes:=⟨[t,u]⟩}=>ul P (fV (tv P t)) nm box (az env s) (az env x) (bG hyp (aI env s)∧bG hyp (aI env x)∧t=u)
 | .nilCheck y=>Dn (az env y) (bG hyp (aI env y))
 |_=>none
section
variable {P:Program} {cx:Cx} {hyp:Prop} {env:Env} {box:ay} {nm:Nat} {o:Oper} {K:OpS→Prop} {S:OpS} {c d:Prop}
theorem Ql {t:TypeId} {y:Operand} (h:uj (tv P t) (az env y) box d=some (S,c)) (hc:c) (hK:K S):d∧wD P env box t y K:=by
 unfold uj at h
 unfold wD
 split at h
 ·rename_i i b off e1 e2
  rw[e1,e2]
  simp only
  split at h
  ·rename_i bx e3
   split at h
   ·rename_i x e4
    injection h with h;injection h with h1 h2;subst h1 h2
    rw[e3];simp only[e4]
    exact⟨hc.1,hc.2,hK⟩
   ·cases h
  ·cases h
 ·rename_i i l e1 e2
  rw[e1,e2]
  simp only
  split at h
  ·rename_i x e3
   injection h with h;injection h with h1 h2;subst h1 h2
   simp only[e3]
   exact⟨hc,hK⟩
  ·cases h
 ·cases h
theorem Qm {t:TypeId} {y u:Operand} (h:uk (tv P t) (az env y) (az env u) box d=some (S,c)) (hc:c) (hK:K S):d∧wF P env box t y u K:=by
 unfold uk at h
 unfold wF
 split at h
 ·rename_i i b off e1 e2
  rw[e1,e2]
  simp only
  split at h
  ·rename_i bx e3
   injection h with h;injection h with h1 h2;subst h1 h2
   rw[e3]
   exact⟨hc.1,hc.2,hK⟩
  ·cases h
 ·cases h
theorem Qn {s:TypeId} {y:Operand} {f:Nat} (h:zl P (fV (tv P s)) (az env y) f d=some (S,c)) (hc:c) (hK:K S):d∧wG P env s y f K:=by
 rw[←og] at h
 unfold zl at h
 unfold wG
 split at h
 ·rename_i fs e1
  rw[e1]
  simp only
  split at h
  ·rename_i fo ft e2
   rw[e2]
   simp only
   split at h
   ·rename_i j e3
    rw[e3]
    simp only
    split at h
    ·rename_i e4
     injection h with h;injection h with h1 h2;subst h1 h2
     rw[e4];exact⟨hc.1,hc.2,hK⟩
    ·rename_i e4
     injection h with h;injection h with h1 h2;subst h1 h2
     rw[e4];exact⟨hc.1,hc.2,hK⟩
    ·cases h
   ·cases h
  ·cases h
 ·cases h
theorem Qo {t:TypeId} {y z:Operand} (h:zn P hyp (fV (tv P t)) (az env y) (az env z) d=some (S,c)) (hc:c) (hK:K S):d∧wH P hyp env t y z K:=by
 rw[←og] at h
 unfold zn at h
 unfold wH
 split at h
 ·rename_i e k i e1 e2
  rw[e1,e2]
  simp only
  split at h
  ·rename_i j e3
   rw[e3]
   simp only
   split at h
   ·rename_i e4
    injection h with h;injection h with h1 h2;subst h1 h2
    rw[e4];exact⟨hc.1,hc.2.1,hc.2.2,hK⟩
   ·rename_i e4
    injection h with h;injection h with h1 h2;subst h1 h2
    rw[e4];exact⟨hc.1,hc.2.1,hc.2.2,hK⟩
   ·cases h
  ·cases h
 ·rename_i n e k i e1 e2
  rw[e1,e2]
  simp only
  split at h
  ·rename_i j e3
   rw[e3]
   simp only
   split at h
   ·rename_i e4
    injection h with h;injection h with h1 h2;subst h1 h2
    rw[e4];exact⟨hc.1,hc.2,hK⟩
   ·rename_i e4
    injection h with h;injection h with h1 h2;subst h1 h2
    rw[e4];exact⟨hc.1,hc.2,hK⟩
   ·cases h
  ·cases h
 ·cases h
theorem Qp {op:BinOp} {t:TypeId} {cy:Bool} {x y:AV} (h:zo P op t cy x y d=some (S,c)) (hc:c) (hK:K S):d∧wI P op t cy x y K:=by
 unfold zo at h
 unfold wI
 split at h
 ·split at h
  ·rename_i e1
   injection h with h;injection h with h1 h2;subst h1 h2
   simp only[e1];exact⟨hc.1,hc.2,hK⟩
  ·cases h
 ·split at h
  ·injection h with h;injection h with h1 h2;subst h1 h2
   exact⟨hc.1,hc.2,hK⟩
  ·injection h with h;injection h with h1 h2;subst h1 h2
   exact⟨hc.1,hc.2,hK⟩
  ·cases h
 ·injection h with h;injection h with h1 h2;subst h1 h2
  exact⟨hc.1,⟨hc.2.1,Ij hc.2.2⟩,hK⟩
 ·injection h with h;injection h with h1 h2;subst h1 h2
  exact⟨hc.1,⟨hc.2.1,Ij hc.2.2⟩,hK⟩
 ·injection h with h;injection h with h1 h2;subst h1 h2
  exact⟨hc.1,hc.2,hK⟩
 ·injection h with h;injection h with h1 h2;subst h1 h2
  exact⟨hc.1,hc.2,hK⟩
 ·split at h
  ·rename_i us vs e1 e2
   simp only[e1,e2]
   split at h
   ·injection h with h;injection h with h1 h2;subst h1 h2
    exact⟨hc.1,hc.2.1,hc.2.2,hK⟩
   ·injection h with h;injection h with h1 h2;subst h1 h2
    exact⟨hc.1,hc.2.1,hc.2.2,hK⟩
   ·cases h
  ·rename_i e0
   split at h
   ·rename_i us vs e1 e2
    dsimp only
    split
    ·rename_i us' vs' f1 f2
     exact absurd f2 (e0 us' vs' f1)
    ·simp only[e1,e2]
     split at h
     ·injection h with h;injection h with h1 h2;subst h1 h2
      exact⟨hc.1,hc.2,hK⟩
     ·injection h with h;injection h with h1 h2;subst h1 h2
      exact⟨hc.1,hc.2,hK⟩
     ·cases h
   ·cases h
 ·cases h
theorem Qq {op:UnOp} {x:AV} (h:zq op x d=some (S,c)) (hc:c) (hK:K S):d∧wK op x K:=by
 unfold zq at h
 unfold wK
 split at h
 ·injection h with h;injection h with h1 h2;subst h1 h2;exact⟨hc,hK⟩
 ·injection h with h;injection h with h1 h2;subst h1 h2;exact⟨hc,hK⟩
 ·cases h
theorem Qr {t:TypeId} (h:zt (tv P t) nm t=some (S,c)) (hc:c) (hK:K S):wL P nm t K:=by
 unfold zt at h
 unfold wL
 split at h
 ·rename_i i e1
  injection h with h;injection h with h1 h2;subst h1 h2
  rw[e1];exact⟨hc,hK⟩
 ·cases h
theorem Qs {t:TypeId} {parts:Array (Nat×Operand)} (h:zu P (tv P t) (pU env parts.toList) d=some (S,c)) (hc:c) (hK:K S):d∧wN P env t parts K:=by
 rw[Dl] at h
 unfold zu at h
 unfold wN
 split at h
 ·rename_i i e1
  rw[e1]
  simp only
  split at h
  ·rename_i fs e2
   rw[e2]
   simp only
   split at h
   ·rename_i l e3
    injection h with h;injection h with h1 h2;subst h1 h2
    rw[e3];exact⟨hc.1,hc.2.1,hc.2.2,hK⟩
   ·cases h
  ·rename_i n e e2
   rw[e2]
   simp only
   split at h
   ·rename_i j e3
    rw[e3]
    simp only
    split at h
    ·rename_i l e4
     injection h with h;injection h with h1 h2;subst h1 h2
     rw[e4];exact⟨hc.1,hc.2,hK⟩
    ·cases h
   ·cases h
  ·cases h
 ·cases h
theorem Qt {t:TypeId} {len:Nat} {parts:Array (Nat×Operand)} (h:zw P (fV (tv P t)) nm len (pU env parts.toList) d=some (S,c)) (hc:c) (hK:K S):d∧wO P env nm t len parts K:=by
 rw[←og,Dl] at h
 unfold zw at h
 unfold wO
 split at h
 ·rename_i e e1
  rw[e1]
  simp only
  split at h
  ·rename_i j e2
   rw[e2]
   simp only
   split at h
   ·rename_i l e3
    injection h with h;injection h with h1 h2;subst h1 h2
    rw[e3];exact⟨hc.1,hc.2,hK⟩
   ·cases h
  ·cases h
 ·cases h
theorem kC {y:Option Operand} {v:AV} (h:mK env y=some v):∃z,y=some z∧az env z=v:=by
 cases y with
 |none=>cases h
 |some z=>exact⟨z,rfl,by simpa[mK] using h⟩
theorem fE {y:Option Operand} (h:mK env y=none):y=none:=by
 cases y with
 |none=>rfl
 |some z=>cases h
theorem Qu {t:TypeId} {y:Operand} {lo hi mx:Option Operand} (h:zx P (fV (tv P t)) (az env y) (mK env lo) (mK env hi) (mK env mx) d=some (S,c)) (hc:c) (hK:K S):d∧wP P env t y lo hi mx K:=by
 rw[←og] at h
 unfold zx at h
 unfold wP
 split at h
 ·rename_i e full k l e1 e2
  rw[e1,e2]
  simp only
  split at h
  ·rename_i j e3 e4 e5 e6
   injection h with h;injection h with h1 h2;subst h1 h2
   rw[e3]
   refine⟨hc.1,hc.2,0,l.length,full,.inl ⟨fE e4,rfl⟩,.inl ⟨fE e5,rfl,fE e6⟩,.inl ⟨fE e6,by simp⟩,Nat.zero_le _,Nat.le_refl _,by simpa using hK⟩
  ·rename_i j a e3 e4 e5 e6
   injection h with h;injection h with h1 h2;subst h1 h2
   rw[e3]
   obtain⟨za,hza,ea⟩:=kC e4
   obtain⟨h1,h2,h3,h4⟩:=hc
   refine⟨h1,h2,a.toNat,l.length,full,.inr ⟨za,hza,by rw[ea,Int.toNat_of_nonneg h3]⟩,.inl ⟨fE e5,rfl,fE e6⟩,.inl ⟨fE e6,by simp⟩,by omega,Nat.le_refl _,by simpa using hK⟩
  ·rename_i j b e3 e4 e5 e6
   injection h with h;injection h with h1 h2;subst h1 h2
   rw[e3]
   obtain⟨zb,hzb,eb⟩:=kC e5
   obtain⟨h1,h2,h3,h4⟩:=hc
   refine⟨h1,h2,0,b.toNat,_,.inl ⟨fE e4,rfl⟩,.inr ⟨zb,hzb,by rw[eb,Int.toNat_of_nonneg h3]⟩,.inl ⟨fE e6,rfl⟩,Nat.zero_le _,by omega,by simpa using hK⟩
  ·rename_i j a b e3 e4 e5 e6
   injection h with h;injection h with h1 h2;subst h1 h2
   rw[e3]
   obtain⟨za,hza,ea⟩:=kC e4
   obtain⟨zb,hzb,eb⟩:=kC e5
   obtain⟨h1,h2,h3,h4,h5⟩:=hc
   refine⟨h1,h2,a.toNat,b.toNat,_,.inr ⟨za,hza,by rw[ea,Int.toNat_of_nonneg h3]⟩,.inr ⟨zb,hzb,by rw[eb,Int.toNat_of_nonneg byOmega]⟩,.inl ⟨fE e6,rfl⟩,by omega,by omega,by simpa using hK⟩
  ·rename_i j b m e3 e4 e5 e6
   injection h with h;injection h with h1 h2;subst h1 h2
   rw[e3]
   obtain⟨zb,hzb,eb⟩:=kC e5
   obtain⟨zm,hzm,em⟩:=kC e6
   obtain⟨h1,h2,h3,h4,rfl⟩:=hc
   refine⟨h1,h2,0,m.toNat,true,.inl ⟨fE e4,rfl⟩,.inr ⟨zb,hzb,by rw[eb,Int.toNat_of_nonneg h3]⟩,.inr ⟨rfl,zm,hzm,by rw[em,Int.toNat_of_nonneg h3]⟩,Nat.zero_le _,by omega,by simpa using hK⟩
  ·rename_i j a b m e3 e4 e5 e6
   injection h with h;injection h with h1 h2;subst h1 h2
   rw[e3]
   obtain⟨za,hza,ea⟩:=kC e4
   obtain⟨zb,hzb,eb⟩:=kC e5
   obtain⟨zm,hzm,em⟩:=kC e6
   obtain⟨h1,h2,h3,h4,h5,rfl⟩:=hc
   refine⟨h1,h2,a.toNat,m.toNat,true,.inr ⟨za,hza,by rw[ea,Int.toNat_of_nonneg h3]⟩,.inr ⟨zb,hzb,by rw[eb,Int.toNat_of_nonneg byOmega]⟩,.inr ⟨rfl,zm,hzm,by rw[em,Int.toNat_of_nonneg byOmega]⟩,by omega,by omega,by simpa using hK⟩
  ·cases h
 ·rename_i e bx k off n e1 e2
  rw[e1,e2]
  simp only
  split at h
  ·rename_i j e3 e4 e5 e6
   injection h with h;injection h with h1 h2;subst h1 h2
   rw[e3]
   refine⟨hc.1,hc.2,0,n,.inl ⟨fE e4,rfl⟩,.inl ⟨fE e5,rfl⟩,fE e6,Nat.zero_le _,Nat.le_refl _,by simpa using hK⟩
  ·rename_i j a e3 e4 e5 e6
   injection h with h;injection h with h1 h2;subst h1 h2
   rw[e3]
   obtain⟨za,hza,ea⟩:=kC e4
   obtain⟨h1,h2,h3,h4⟩:=hc
   refine⟨h1,h2,a.toNat,n,.inr ⟨za,hza,by rw[ea,Int.toNat_of_nonneg h3]⟩,.inl ⟨fE e5,rfl⟩,fE e6,by omega,Nat.le_refl _,by simpa using hK⟩
  ·rename_i j b e3 e4 e5 e6
   injection h with h;injection h with h1 h2;subst h1 h2
   rw[e3]
   obtain⟨zb,hzb,eb⟩:=kC e5
   obtain⟨h1,h2,h3,h4⟩:=hc
   refine⟨h1,h2,0,b.toNat,.inl ⟨fE e4,rfl⟩,.inr ⟨zb,hzb,by rw[eb,Int.toNat_of_nonneg h3]⟩,fE e6,Nat.zero_le _,by omega,by simpa using hK⟩
  ·rename_i j a b e3 e4 e5 e6
   injection h with h;injection h with h1 h2;subst h1 h2
   rw[e3]
   obtain⟨za,hza,ea⟩:=kC e4
   obtain⟨zb,hzb,eb⟩:=kC e5
   obtain⟨h1,h2,h3,h4,h5⟩:=hc
   refine⟨h1,h2,a.toNat,b.toNat,.inr ⟨za,hza,by rw[ea,Int.toNat_of_nonneg h3]⟩,.inr ⟨zb,hzb,by rw[eb,Int.toNat_of_nonneg byOmega]⟩,fE e6,by omega,by omega,by simpa using hK⟩
  ·cases h
 ·rename_i n e l e1 e2
  rw[e1,e2]
  simp only
  split at h
  ·rename_i j e3 e4 e5 e6
   injection h with h;injection h with h1 h2;subst h1 h2
   rw[e3]
   obtain⟨h1,h2,h3,h4⟩:=hc
   exact⟨h1,fE e4,fE e5,fE e6,h2,h3,by simp[maxLen];omega,hK⟩
  ·cases h
 ·cases h
theorem Qv {s t:TypeId} {x:AV} (h:zy P s t (tv P t) x d=some (S,c)) (hc:c) (hK:K S):d∧wJ P s t x K:=by
 unfold zy at h
 unfold wJ
 split at h
 ·split at h
  ·injection h with h;injection h with h1 h2;subst h1 h2
   obtain⟨g1,g2,g3⟩:=hc
   rw[g2]
   exact⟨g1,g3,hK⟩
  ·cases h
 ·cases h
theorem Qw {t:TypeId} {x y:AV} (h:zz P (fV (tv P t)) nm x y d=some (S,c)) (hc:c) (hK:K S):d∧wQ P nm t x y K:=by
 rw[←og] at h
 unfold zz at h
 unfold wQ
 split at h
 ·rename_i e n m e1
  simp only[e1]
  split at h
  ·rename_i j e2
   injection h with h;injection h with h1 h2;subst h1 h2
   simp only[e2]
   exact⟨hc.1,hc.2,hK⟩
  ·cases h
 ·cases h
theorem Qx {t:TypeId} {x:AV} (h:zA (fV (tv P t)) x d=some (S,c)) (hc:c) (hK:K S):d∧wR P t x K:=by
 rw[←og] at h
 unfold zA at h
 unfold wR
 split at h
 ·rename_i e e1
  rw[e1]
  simp only
  split at h<;>first|(injection h with h;injection h with h1 h2;subst h1 h2;exact⟨hc,hK⟩)|cases h
 ·cases h
theorem Qy {t:TypeId} {s x:Operand} (h:ul P (fV (tv P t)) nm box (az env s) (az env x) d=some (S,c)) (hc:c) (hK:K S):d∧appW P env box nm t s x K:=by
 rw[←og] at h
 unfold ul at h
 unfold appW
 split at h
 ·rename_i e e1
  rw[e1]
  simp only
  split at h
  ·rename_i j e2
   rw[e2]
   simp only
   split at h
   ·rename_i fpx m news e3
    rw[e3]
    simp only
    split at h
    ·rename_i b0 k n e4
     rw[e4]
     simp only
     split at h
     ·rename_i bx e5
      rw[e5]
      simp only
      injection h with h;injection h with h1 h2;subst h1 h2
      obtain⟨q1,q2,q3,q4,q5,q6⟩:=hc
      exact⟨q1,⟨q2,q3⟩,q4,q5,q6,hK⟩
     ·cases h
    ·rename_i full k l e4
     rw[e4]
     simp only
     injection h with h;injection h with h1 h2;subst h1 h2
     obtain⟨q1,q2,q3,q4,q5,q6,q7⟩:=hc
     exact⟨q1,⟨q2,q3⟩,q4,q5,q6,q7,hK⟩
    ·rename_i e4
     rw[e4]
     simp only
     injection h with h;injection h with h1 h2;subst h1 h2
     obtain⟨q1,q2,q3,q4,q5⟩:=hc
     exact⟨q1,⟨q2,q3⟩,q4,q5,hK⟩
    ·cases h
   ·cases h
  ·cases h
 ·cases h
theorem Qz {x:AV} {i:Nat} (h:zF x i d=some (S,c)) (hc:c) (hK:K S):d∧wW x i K:=by
 unfold zF at h
 unfold wW
 split at h
 ·split at h
  ·rename_i e1
   injection h with h;injection h with h1 h2;subst h1 h2
   simp only[e1];exact⟨hc,hK⟩
  ·cases h
 ·cases h
theorem QA {t:TypeId} {x:AV} {f:Nat} (h:zG P (fV (tv P t)) x f d=some (S,c)) (hc:c) (hK:K S):d∧wX P t x f K:=by
 rw[←og] at h
 unfold zG at h
 unfold wX
 split at h
 ·rename_i fs l e1
  rw[e1]
  simp only
  split at h
  ·rename_i fo ft e2
   rw[e2]
   simp only
   split at h
   ·rename_i j e3
    rw[e3]
    simp only
    split at h
    ·rename_i y e4
     injection h with h;injection h with h1 h2;subst h1 h2
     rw[e4];exact⟨hc,hK⟩
    ·cases h
   ·cases h
  ·cases h
 ·cases h
theorem QB {a p q:Operand} (h:zH hyp (az env a) (az env p) (az env q) (aI env p) (aI env q) (bG hyp (aI env a))=some (S,c)) (hc:c) (hK:K S):yZ hyp env a p q K:=by
 unfold zH at h
 unfold yZ
 split at h
 ·rename_i t e1
  injection h with h;injection h with h1 h2;subst h1 h2
  rw[e1];exact⟨hc,hK⟩
 ·cases h
theorem QC {t:TypeId} {x k:AV} {comma:Bool} (h:zB P (P.underlying t) x k comma d=some (S,c)) (hc:c) (hK:K S):d∧wT P t x k comma K:=by
 unfold zB at h
 unfold wT
 split at h
 ·rename_i es q n kt et e1
  rw[e1]
  simp only
  split at h
  ·rename_i e2
   injection h with h;injection h with h1 h2;subst h1 h2
   rw[e2];exact⟨hc.1,hc.2,hK⟩
  ·rename_i e2
   split at h
   ·rename_i e3
    injection h with h;injection h with h1 h2;subst h1 h2
    rw[e2];simp only[e3];exact⟨hc.1,hc.2,hK⟩
   ·cases h
  ·cases h
 ·cases h
theorem QD {t:TypeId} {x:AV} {comma:Bool} (h:zC (tv P t) t x comma d (dQ (P.concrete t=true))=some (S,c)) (hc:c) (hK:K S):d∧wU P t x comma K:=by
 unfold zC at h
 unfold wU
 split at h
 ·split at h
  ·split at h
   ·rename_i e3
    injection h with h;injection h with h1 h2;subst h1 h2
    simp only[e3];exact⟨hc.1,hc.2,hK⟩
   ·cases h
  ·cases h
 ·split at h
  ·rename_i i e1
   rw[e1]
   simp only
   split at h
   ·rename_i fs e2
    rw[e2]
    simp only
    split at h
    ·split at h
     ·rename_i e3
      injection h with h;injection h with h1 h2;subst h1 h2
      simp only[e3];exact⟨hc.1,hK⟩
     ·rename_i e3
      injection h with h;injection h with h1 h2;subst h1 h2
      simp only[e3];exact⟨hc.1,hK⟩
    ·injection h with h;injection h with h1 h2;subst h1 h2
     exact⟨hc.1,hK⟩
    ·cases h
   ·cases h
  ·cases h
theorem QE {t:TypeId} {x z:AV} (h:zD P hyp (fV (tv P t)) x z d=some (S,c)) (hc:c) (hK:K S):d∧wV P hyp t x z K:=by
 rw[←og] at h
 unfold zD at h
 unfold wV
 split at h
 ·rename_i n e l k i e1
  rw[e1]
  simp only
  split at h
  ·rename_i j e2
   rw[e2]
   simp only
   split at h
   ·rename_i y e3
    injection h with h;injection h with h1 h2;subst h1 h2
    rw[e3];exact⟨hc.1,hc.2,hK⟩
   ·cases h
  ·cases h
 ·cases h
theorem Ik {mx:Bool} {x y:AV} (h:xw mx x y d=some (S,c)) (hc:c) (hK:K S):d∧tV mx x y K:=by
 unfold xw at h
 unfold tV
 split at h
 ·injection h with h;injection h with h1 h2;subst h1 h2
  exact⟨hc.1,hc.2,hK⟩
 ·cases h
theorem kD {y:Operand} {op:Op} (ho:op.operands= #[y]) (h:bG hyp (aI env y)):tY hyp env op.operands.toList:=by rw[ho];exact⟨h,trivial⟩
theorem ol {y z:Operand} {op:Op} (ho:op.operands= #[y,z]) (h:bG hyp (aI env y)∧bG hyp (aI env z)):tY hyp env op.operands.toList:=by rw[ho];exact⟨h.1,h.2,trivial⟩
theorem Il (h:oh P hyp env box nm o.op=some (S,c)) (hc:c) (hK:K S):iK P cx hyp env box nm o K:=by
 unfold iK
 generalize ho:o.op=op at h
 unfold oh at h
 split at h
 ·exact QB h hc hK
 ·injection h with h;injection h with h1 h2;subst h1 h2
  refine⟨kD rfl hc,?_⟩
  unfold bX;simp only[ho];exact hK
 ·injection h with h;injection h with h1 h2;subst h1 h2
  refine⟨kD rfl hc,?_⟩
  unfold bX;simp only[ho];exact hK
 ·obtain⟨h1,h2⟩:=Ql h hc hK
  refine⟨kD rfl h1,?_⟩
  unfold bX;simp only[ho];exact h2
 ·obtain⟨h1,h2⟩:=Qm h hc hK
  refine⟨ol rfl h1,?_⟩
  unfold bX;simp only[ho];exact h2
 ·obtain⟨h1,h2⟩:=Qn h hc hK
  refine⟨kD rfl h1,?_⟩
  unfold bX;simp only[ho];exact h2
 ·obtain⟨h1,h2⟩:=Qo h hc hK
  refine⟨ol rfl h1,?_⟩
  unfold bX;simp only[ho];exact h2
 ·obtain⟨h1,h2⟩:=Qp h hc hK
  refine⟨ol rfl h1,?_⟩
  unfold bX;simp only[ho];exact h2
 ·obtain⟨h1,h2⟩:=Qq h hc hK
  refine⟨kD rfl h1,?_⟩
  unfold bX;simp only[ho];exact h2
 ·unfold Dk at h
  injection h with h;injection h with h1 h2;subst h1 h2
  refine⟨kD rfl hc.1,?_⟩
  unfold bX;simp only[ho];exact⟨hc.2,hK⟩
 ·refine⟨trivial,?_⟩
  unfold bX;simp only[ho];exact Qr h hc hK
 ·obtain⟨h1,h2⟩:=Qs h hc hK
  refine⟨?_,?_⟩
  ·rw[Dm] at h1
   exact nZ (by simpa[Op.operands] using h1)
  ·unfold bX;simp only[ho];exact h2
 ·obtain⟨h1,h2⟩:=Qt h hc hK
  refine⟨?_,?_⟩
  ·rw[Dm] at h1
   exact nZ (by simpa[Op.operands] using h1)
  ·unfold bX;simp only[ho];exact h2
 ·rename_i t y lo hi mx
  obtain⟨h1,h2⟩:=Qu h hc hK
  refine⟨nZ ?_,?_⟩
  ·cases lo<;>cases hi<;>cases mx<;>simpa[Op.operands] using h1
  ·unfold bX;simp only[ho];exact h2
 ·obtain⟨h1,h2⟩:=Qv h hc hK
  refine⟨kD rfl h1,?_⟩
  unfold bX;simp only[ho];exact h2
 ·obtain⟨h1,h2⟩:=Qw h hc hK
  refine⟨ol rfl h1,?_⟩
  unfold bX;simp only[ho];exact h2
 ·obtain⟨h1,h2⟩:=Qz h hc hK
  refine⟨kD rfl h1,?_⟩
  unfold bX;simp only[ho];exact h2
 ·obtain⟨h1,h2⟩:=QA h hc hK
  refine⟨kD rfl h1,?_⟩
  unfold bX;simp only[ho];exact h2
 ·rw[rD,rD] at h
  injection h with h;injection h with h1 h2;subst h1 h2
  refine⟨nZ (by simpa[Op.operands] using hc),?_⟩
  unfold bX;simp only[ho];exact hK
 ·injection h with h;injection h with h1 h2;subst h1 h2
  refine⟨kD rfl hc.1,?_⟩
  unfold bX;simp only[ho];exact⟨hc.2,hK⟩
 ·obtain⟨h1,h2⟩:=QD h hc hK
  refine⟨kD rfl h1,?_⟩
  unfold bX;simp only[ho];exact h2
 ·obtain⟨h1,h2⟩:=QE h hc hK
  refine⟨ol rfl h1,?_⟩
  unfold bX;simp only[ho];exact h2
 ·obtain⟨h1,h2⟩:=QC h hc hK
  refine⟨ol rfl h1,?_⟩
  unfold bX;simp only[ho];exact h2
 ·obtain⟨h1,h2⟩:=Ik h hc hK
  refine⟨ol (by simp[Op.operands,Call.operands]) h1,?_⟩
  unfold bX;simp only[ho];exact h2
 ·obtain⟨h1,h2⟩:=Ik h hc hK
  refine⟨ol (by simp[Op.operands,Call.operands]) h1,?_⟩
  unfold bX;simp only[ho];exact h2
 ·obtain⟨h1,h2⟩:=Qx h hc hK
  refine⟨kD (by simp[Op.operands,Call.operands]) h1,?_⟩
  unfold bX;simp only[ho];exact h2
 ·obtain⟨⟨q1,q2,q3⟩,h2⟩:=Qy h hc hK
  refine⟨ol (by simp[Op.operands,Call.operands]) ⟨q1,q2⟩,?_⟩
  unfold bX;simp only[ho];exact⟨q3,h2⟩
 ·unfold Dn at h
  split at h
  ·rename_i b off e1
   injection h with h;injection h with h1 h2;subst h1 h2
   refine⟨kD rfl hc,?_⟩
   unfold bX;simp only[ho]
   unfold y9
   rw[e1]
   exact hK
  ·cases h
 ·cases h
end
end Go.Proofs.YtlikpcpllahalaaGreat.V
