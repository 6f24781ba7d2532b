/- Parts of the proof. -/
import Derived.Test.YtlikpcpllahalaaGreatG5
set_option linter.unusedSimpArgs false
set_option linter.unusedVariables false
namespace Go.Proofs.YtlikpcpllahalaaGreat.V
open Go.RowKit
inductive TK where
 |slice (e:TypeId)
 |array (n:Nat) (e:TypeId)
 |struct (fs:List (Nat×TypeId))
 |other
structure TI where
 size:Nat
 agg:Bool
 zero:Value
 bytes:Nat
 k:TK
def G7:TypeDesc→Bool
 | .struct _| .array _ _=>true
 |_=>false
def kindOf:TypeDesc→TK
 | .slice e=> .slice e
 | .array n e=> .array n e
 | .struct fs=> .struct (fs.toList.map fun f=>(f.offset,f.type))
 |_=> .other
def tv (P:Program) (t:TypeId):Option TI:=
 match P.info? t,P.underlying t with
 |some i,some d=>match i.zero with
  |some z=>some ⟨i.size,G7 d,z,i.bytes,kindOf d⟩
  |none=>none
 |_,_=>none
section
variable {P:Program} {t:TypeId} {i:TI}
theorem pG (h:tv P t=some i):∃(j:TypeInfo) (d:TypeDesc),P.info? t=some j∧P.underlying t=some d∧j.zero=some i.zero∧j.size=i.size∧j.bytes=i.bytes∧i.agg=G7 d∧i.k=kindOf d:=by
 unfold tv at h
 split at h
 ·rename_i j d h1 h2
  split at h
  ·rename_i z h3
   injection h with h
   subst h
   exact⟨j,d,h1,h2,h3,rfl,rfl,rfl,rfl⟩
  ·cases h
 ·cases h
theorem fC (h:tv P t=some i) (w:World):(sizeOf t).run P w= .ok i.size w:=by
 obtain⟨j,d,h1,-,-,h4,-⟩:=pG h
 simp[sizeOf,typeInfo,h1,h4]
theorem qX (h:tv P t=some i) (w:World):(zeroValue t).run P w= .ok i.zero w:=by
 obtain⟨j,d,h1,-,h3,-⟩:=pG h
 simp[zeroValue,typeInfo,h1,h3]
theorem qY (h:tv P t=some i) (w:World):(isAgg t).run P w= .ok i.agg w:=by
 obtain⟨j,d,h1,h2,-,-,-,h5,-⟩:=pG h
 simp only[isAgg,Sem.run_bind,run_underlying h2,Result.andThen_ok,h5]
 cases d<;>rfl
theorem ku {e:TypeId} (h:tv P t=some i) (hk:i.k= .slice e):P.underlying t=some (.slice e):=by
 obtain⟨j,d,h1,h2,-,-,-,-,h6⟩:=pG h
 rw[hk] at h6
 cases d<;>simp[kindOf] at h6
 rw[h2,h6]
theorem wC {e:TypeId} {n:Nat} (h:tv P t=some i) (hk:i.k= .array n e):P.underlying t=some (.array n e):=by
 obtain⟨j,d,h1,h2,-,-,-,-,h6⟩:=pG h
 rw[hk] at h6
 cases d<;>simp[kindOf] at h6
 rw[h2,h6.1,h6.2]
theorem yY {fs:List (Nat×TypeId)} (h:tv P t=some i) (hk:i.k= .struct fs):∃fds:Array Field,P.underlying t=some (.struct fds)∧fs=fds.toList.map fun f=>(f.offset,f.type):=by
 obtain⟨j,d,h1,h2,-,-,-,-,h6⟩:=pG h
 rw[hk] at h6
 cases d<;>simp[kindOf] at h6
 exact⟨_,h2,h6⟩
theorem CL (h:tv P t=some i):(P.info? t).map (fun j=>(j.zero,j.size,j.bytes))=some (some i.zero,i.size,i.bytes):=by
 obtain⟨j,d,h1,-,h3,h4,h5,-⟩:=pG h
 simp[h1,h3,h4,h5]
end
abbrev Env:=List (Nat×AV)
abbrev ay:=List (Nat×Option Bx)
def bf:Env→Nat→AV
 | [],_=> .any
 |(s,x)::r,t=>if t=s then x else bf r t
def ah (l:ay):Nat→Option Bx:=ax (fun _=>none) l
def aI (env:Env):Operand→AV
 | .tmp t=>bf env t
 | .const v=> .v v
 | .global g=> .v (.pointer (some ⟨g,0,none⟩))
 | .func f=> .v (.func (.func f) #[] #[])
def bB (env:Env) (box:ay) (n:Nat) (u:List Nat):AS:=⟨bf env,ah box,fun b=>b<n∨b∈u⟩
def az (env:Env) (y:Operand):AV:=(aI env y).strip
theorem kv (env:Env) (box:ay) (n:Nat) (u:List Nat):(bB env box n u).eval=aI env:=by
 funext y;cases y<;>rfl
def dA (dst:Option Tmp) (x:AV) (env:Env):Env:=match dst with|some d=>(d,x)::env|none=>env
theorem qZ (env:Env) (box:ay) (n:Nat) (u:List Nat) (dst:Option Tmp) (S:OpS):(bB env box n u).app dst S=bB (dA dst S.x env) (S.tb++box) n (S.tb.map (·.1)++u):=by
 unfold bB AS.app
 congr 1
 ·cases dst<;>rfl
 ·exact wz box S.tb
 ·funext b
  refine propext ⟨?_,?_⟩
  ·rintro((h|h)|⟨r,h⟩)
   ·exact .inl h
   ·exact .inr (by simp[h])
   ·exact .inr (by simp;exact .inl ⟨r,h⟩)
  ·rintro(h|h)
   ·exact .inl (.inl h)
   ·simp at h
    rcases h with⟨r,h⟩|h
    ·exact .inr ⟨r,h⟩
    ·exact .inl (.inr h)
def stepW (P:Program) (cx:Cx) (hyp:Prop) (env:Env) (box:ay) (nm:Nat) (o:Oper) (K:OpS→Prop):Prop:=
 ∃S,(hyp→Yields P cx o (aI env) S)∧(∀b x,(b,x)∈S.fp→ah box b=some x)∧(∀b x,(b,some x)∈S.tb→(∃y,(b,y)∈S.fp)∨(nm≤b∧b<nm+8))∧K S
def dN (P:Program) (cx:Cx) (hyp:Prop) (env:Env) (box:ay) (nm:Nat) (o:Oper) (K:OpS→Prop):Prop:=
 ∃S,(hyp→Yields P cx o (az env) S)∧(∀b x,(b,x)∈S.fp→ah box b=some x)∧(∀b x,(b,some x)∈S.tb→(∃y,(b,y)∈S.fp)∨(nm≤b∧b<nm+8))∧K S
def wD (P:Program) (env:Env) (box:ay) (t:TypeId) (y:Operand) (K:OpS→Prop):Prop:=
 match tv P t,az env y with
 |some i,.ptr b off=>match ah box b with
  |some bx=>match eD i.agg i.size off bx.cs with
   |some x=>bx.cs≠ []∧K ⟨[(b,bx)],x,[]⟩
   |none=>False
  |none=>False
 |some i,.pp l=>match eD i.agg i.size 0 l with
  |some x=>K ⟨[],x,[]⟩
  |none=>False
 |_,_=>False
def wF (P:Program) (env:Env) (box:ay) (t:TypeId) (y u:Operand) (K:OpS→Prop):Prop:=
 match tv P t,az env y with
 |some i,.ptr b off=>match ah box b with
  |some bx=>((az env u).flat=true∧(az env u).cells.length=i.size∧off+i.size≤bx.cs.length∧0<i.size)∧K ⟨[(b,bx)],.v undef,[(b,some ⟨bx.t,splice bx.cs off (az env u).cells⟩)]⟩
  |none=>False
 |_,_=>False
def wG (P:Program) (env:Env) (s:TypeId) (y:Operand) (f:Nat) (K:OpS→Prop):Prop:=
 match(tv P s).map TI.k with
 |some (.struct fs)=>match fs[f]? with
  |some (fo,ft)=>match tv P ft with
   |some j=>j.size≠0∧match az env y with
    | .ptr b off=>K ⟨[],.ptr b (off+fo),[]⟩
    | .pp l=>K ⟨[],.pp (l.drop fo),[]⟩
    |_=>False
   |none=>False
  |none=>False
 |_=>False
def wH (P:Program) (hyp:Prop) (env:Env) (t:TypeId) (y z:Operand) (K:OpS→Prop):Prop:=
 match(tv P t).map TI.k,az env z with
 |some (.slice e),.v (.int _ i)=>match tv P e with
  |some j=>match az env y with
   | .sl _ k l=>k=j.size∧(hyp→0≤i∧i<l.length)∧K ⟨[],.pp ((l[i.toNat]?).getD []),[]⟩
   | .osl b k off n=>k=j.size∧(hyp→0≤i∧i<n)∧K ⟨[],.ptr b (off+i.toNat*k),[]⟩
   |_=>False
  |none=>False
 |some (.array n e),.v (.int _ i)=>match tv P e with
  |some j=>match az env y with
   | .ptr b off=>(hyp→0≤i∧i<n)∧K ⟨[],.ptr b (off+i.toNat*j.size),[]⟩
   | .pp l=>(hyp→0≤i∧i<n)∧K ⟨[],.pp (l.drop (i.toNat*j.size)),[]⟩
   |_=>False
  |none=>False
 |_,_=>False
def bC (op:BinOp) (k:IntKind) (a b:Int):Option AV:=
 match op with
 | .add=>some (.v (.int k (k.wrap (a+b))))
 | .sub=>some (.v (.int k (k.wrap (a-b))))
 | .mul=>some (.v (.int k (k.wrap (a*b))))
 | .eql=>some (.v (.bool (a==b)))
 | .neq=>some (.v (.bool (a != b)))
 | .lss=>some (.v (.bool (decide (a<b))))
 | .leq=>some (.v (.bool (decide (a≤b))))
 | .gtr=>some (.v (.bool (decide (a>b))))
 | .geq=>some (.v (.bool (decide (a≥b))))
 | .quo=>if b=0 then none else some (.v (.int k (k.wrap (a.tdiv b))))
 | .rem=>if b=0 then none else some (.v (.int k (a.tmod b)))
 | .shr=>if b<0 then none else some (.v (.int k (a.fdiv (2 ^ min b.toNat k.bits))))
 | .and=>some (.v (.int k (k.wrap (BitVec.ofInt k.bits a&&& BitVec.ofInt k.bits b).toNat)))
 | .or=>some (.v (.int k (k.wrap (BitVec.ofInt k.bits a|||BitVec.ofInt k.bits b).toNat)))
 | .shl=>if b<0 then none else some (.v (.int k (k.wrap (a*2 ^ min b.toNat k.bits))))
 |_=>none
def nW (P:Program) (t:TypeId) (n:Nat):Prop:=∀xs ys:List Int,xs.length=n→ys.length=n→∀w,
 (do eqGuard .eql t (.const undef) (.const undef) (.agg (xs.map (Value.int .i64)).toArray) (.agg (ys.map (Value.int .i64)).toArray);Op.equal t (.agg (xs.map (Value.int .i64)).toArray) (.agg (ys.map (Value.int .i64)).toArray):Sem Bool).run P w= .ok (decide (xs=ys)) w
def AV.int?:AV→Option Int
 | .v (.int .i64 n)=>some n
 |_=>none
inductive Sc where
 |i (n:Int)
 |b (x:Bool)
deriving DecidableEq
def Sc.v:Sc→Value
 | .i n=> .int .i64 n
 | .b x=> .bool x
def AV.sc?:AV→Option Sc
 | .v (.int .i64 n)=>some (.i n)
 | .v (.bool x)=>some (.b x)
 |_=>none
def CO (P:Program) (t:TypeId) (us vs:List Sc):Prop:=∀w,
 (do eqGuard .eql t (.const undef) (.const undef) (.agg (us.map Sc.v).toArray) (.agg (vs.map Sc.v).toArray);Op.equal t (.agg (us.map Sc.v).toArray) (.agg (vs.map Sc.v).toArray):Sem Bool).run P w= .ok (decide (us=vs)) w
def isConst:Operand→Bool
 | .const _=>true
 |_=>false
def wI (P:Program) (op:BinOp) (t:TypeId) (cy:Bool) (x y:AV) (K:OpS→Prop):Prop:=
 match x,y with
 | .v (.int k a),.v (.int k' b)=>k=k'∧match bC op k a b with|some z=>K ⟨[],z,[]⟩|none=>False
 | .v (.bool a),.v (.bool b)=>P.underlying t=some .bool∧match op with| .eql=>K ⟨[],.v (.bool (a==b)),[]⟩| .neq=>K ⟨[],.v (.bool (a != b)),[]⟩|_=>False
 | .sl _ _ l,.v (.slice none 0 0)=>(op= .eql∧∃e,P.underlying t=some (.slice e))∧K ⟨[],.bit (l=[]),[]⟩
 | .v (.slice A _ _),.v (.slice none 0 0)=>(op= .eql∧∃e,P.underlying t=some (.slice e))∧K ⟨[],.v (.bool A.isNone),[]⟩
 | .iface _ _,.v .nilIface=>(op= .eql∧P.underlying t=some (.interface (P.methodsAt t)))∧K ⟨[],.v (.bool false),[]⟩
 | .v .nilIface,.v .nilIface=>(op= .eql∧cy=true∧P.underlying t=some (.interface (P.methodsAt t)))∧K ⟨[],.v (.bool true),[]⟩
 | .agg xs,.agg ys=>match xs.mapM AV.int?,ys.mapM AV.int? with
   |some us,some vs=>nW P t us.length∧us.length=vs.length∧match op with| .eql=>K ⟨[],.v (.bool (decide (us=vs))),[]⟩| .neq=>K ⟨[],.v (.bool (!decide (us=vs))),[]⟩|_=>False
   |_,_=>match xs.mapM AV.sc?,ys.mapM AV.sc? with
    |some us,some vs=>CO P t us vs∧match op with| .eql=>K ⟨[],.v (.bool (decide (us=vs))),[]⟩| .neq=>K ⟨[],.v (.bool (!decide (us=vs))),[]⟩|_=>False
    |_,_=>False
 |_,_=>False
def wJ (P:Program) (s d:TypeId) (x:AV) (K:OpS→Prop):Prop:=
 match P.underlying d,x with
 |some (.int k),.v (.int _ n)=>(P.underlying s).isSome=true∧K ⟨[],.v (.int k (k.wrap n)),[]⟩
 |_,_=>False
def wK (op:UnOp) (x:AV) (K:OpS→Prop):Prop:=
 match op,x with
 | .not,.v (.bool b)=>K ⟨[],.v (.bool !b),[]⟩
 | .neg,.v (.int k n)=>K ⟨[],.v (.int k (k.wrap (0-n))),[]⟩
 |_,_=>False
def G8 (env:Env) (nm:Nat) (t:TypeId) (y:Operand) (K:OpS→Prop):Prop:=(az env y).flat=true∧K ⟨[],.ptr nm 0,[(nm,some ⟨t,(az env y).cells⟩)]⟩
def wL (P:Program) (nm:Nat) (t:TypeId) (K:OpS→Prop):Prop:=
 match tv P t with
 |some i=>i.zero.cells.all (·.oneCell')=true∧K ⟨[],.ptr nm 0,[(nm,some ⟨t,i.zero.cells.toList.map .v⟩)]⟩
 |none=>False
def placesOf (P:Program) (fs:List (Nat×TypeId)):List (Nat×Nat):=fs.map fun f=>(f.1,match tv P f.2 with|some j=>j.size|none=>0)
def wM (P:Program) (fs:List (Nat×TypeId)):Bool:=fs.all fun f=>(tv P f.2).isSome
def wN (P:Program) (env:Env) (t:TypeId) (parts:Array (Nat×Operand)) (K:OpS→Prop):Prop:=
 match tv P t with
 |some i=>i.zero.cells.all (·.oneCell')=true∧match i.k with
  | .struct fs=>wM P fs=true∧match jJ (fun j=>(placesOf P fs)[j]?) (i.zero.cells.toList.map .v) (parts.toList.map fun p=>(p.1,az env p.2)) with
    |some l=>K ⟨[],.agg l,[]⟩
    |none=>False
  | .array _ e=>match tv P e with
    |some j=>match jJ (fun m=>some (m*j.size,j.size)) (i.zero.cells.toList.map .v) (parts.toList.map fun p=>(p.1,az env p.2)) with
     |some l=>K ⟨[],.agg l,[]⟩
     |none=>False
    |none=>False
  |_=>False
 |none=>False
def lX (z:Value) (k n:Nat):List AV:=(List.range (n*k)).map fun i=> .v (z.cells.getD (i%k) undef)
def wO (P:Program) (env:Env) (nm:Nat) (t:TypeId) (len:Nat) (parts:Array (Nat×Operand)) (K:OpS→Prop):Prop:=
 match(tv P t).map TI.k with
 |some (.slice e)=>match tv P e with
  |some j=>(j.zero.cells.size=j.size∧0<j.size∧j.zero.cells.all (·.oneCell')=true∧len*j.size≤16777216)∧match jJ (fun m=>some (m*j.size,j.size)) (lX j.zero j.size len) (parts.toList.map fun p=>(p.1,az env p.2)) with
   |some l=>K ⟨[],.osl nm j.size 0 len,[(nm,some ⟨e,l⟩)]⟩
   |none=>False
  |none=>False
 |_=>False
def wP (P:Program) (env:Env) (t:TypeId) (y:Operand) (lo hi mx:Option Operand) (K:OpS→Prop):Prop:=
 match(tv P t).map TI.k,az env y with
 |some (.slice e),.sl full k l=>(match tv P e with|some j=>k=j.size|none=>False)∧∃a b:Nat,∃f':Bool,((lo=none∧a=0)∨∃z,lo=some z∧az env z= .v (.int .i64 (a:Int)))∧((hi=none∧b=l.length∧mx=none)∨∃z,hi=some z∧az env z= .v (.int .i64 (b:Int)))∧
   ((mx=none∧f'=(full&&decide (b=l.length)))∨(f'=true∧∃z,mx=some z∧az env z= .v (.int .i64 (b:Int))))∧a≤b∧b≤l.length∧K ⟨[],.sl f' k ((l.take b).drop a),[]⟩
 |some (.slice e),.osl bx k off n=>(match tv P e with|some j=>k=j.size|none=>False)∧∃a b:Nat,((lo=none∧a=0)∨∃z,lo=some z∧az env z= .v (.int .i64 (a:Int)))∧((hi=none∧b=n)∨∃z,hi=some z∧az env z= .v (.int .i64 (b:Int)))∧
   mx=none∧a≤b∧b≤n∧K ⟨[],.osl bx k (off+a*k) (b-a),[]⟩
 |some (.array n e),.pp l=>lo=none∧hi=none∧mx=none∧(match tv P e with|some j=>j.size=1|none=>False)∧n≤l.length∧n≤maxLen∧K ⟨[],.sl false 1 ((l.take n).map fun x=>[x]),[]⟩
 |_,_=>False
def wQ (P:Program) (nm:Nat) (t:TypeId) (x y:AV) (K:OpS→Prop):Prop:=
 match(tv P t).map TI.k,x,y with
 |some (.slice e),.v (.int .i64 n),.v (.int .i64 m)=>match tv P e with
  |some j=>(j.zero.cells.size=j.size∧0<j.size∧j.zero.cells.all (·.oneCell')=true∧0≤n∧n≤m∧m.toNat*j.bytes≤140737488355328∧m.toNat≤maxLen)∧K ⟨[],.osl nm j.size 0 n.toNat,[(nm,some ⟨e,lX j.zero j.size n.toNat⟩)]⟩
  |none=>False
 |_,_,_=>False
def wR (P:Program) (t:TypeId) (x:AV) (K:OpS→Prop):Prop:=
 match(tv P t).map TI.k with
 |some (.slice _)=>match x with
  | .sl _ _ l=>K ⟨[],int l.length,[]⟩
  | .osl _ _ _ n=>K ⟨[],int n,[]⟩
  | .v (.slice _ n _)=>K ⟨[],int n,[]⟩
  |_=>False
 |_=>False
def rf (box:ay) (k:Nat):AV→Option (List (Nat×Bx)×Nat×List AV)
 | .sl _ k' l=>if k'=k then some ([],l.length,l.flatten) else none
 | .osl b k' off m=>if k'=k then(match ah box b with|some bx=>if off+m*k≤bx.cs.length then some ([(b,bx)],m,(bx.cs.drop off).take (m*k)) else none|none=>none) else none
 | .v (.slice none 0 _)=>some ([],0,[])
 |_=>none
def appW (P:Program) (env:Env) (box:ay) (nm:Nat) (t:TypeId) (s x:Operand) (K:OpS→Prop):Prop:=
 match(tv P t).map TI.k with
 |some (.slice e)=>match tv P e with
  |some j=>(j.zero.cells.size=j.size∧0<j.size)∧match rf box j.size (az env x) with
   |some (fpx,m,news)=>(fpx.all (fun p=>decide (p.1≠nm))=true)∧match az env s with
    | .osl b0 k 0 n=>match ah box b0 with
      |some bx=>(k=j.size∧bx.cs.length=n*k∧bx.t=e∧nm≠b0)∧(n+m≤maxLen∧(n+m)*j.bytes≤140737488355328)∧K ⟨(b0,bx)::fpx,.osl nm k 0 (n+m),[(b0,none),(nm,some ⟨e,bx.cs++news⟩)]⟩
      |none=>False
    | .sl full k l=>(full=true∧k=j.size)∧(0<m∨l=[])∧(l.length+m≤maxLen∧(l.length+m)*j.bytes≤140737488355328)∧K ⟨fpx,.osl nm k 0 (l.length+m),[(nm,some ⟨e,l.flatten++news⟩)]⟩
    | .v (.slice none 0 0)=>(m≤maxLen∧m*j.bytes≤140737488355328)∧K ⟨fpx,.osl nm j.size 0 m,[(nm,some ⟨e,news⟩)]⟩
    |_=>False
   |none=>False
  |none=>False
 |_=>False
def ofV:Value→AV
 | .func f ⟨[]⟩ ⟨[]⟩=> .fn f [] []
 |v=> .v v
def wT (P:Program) (t:TypeId) (x k:AV) (comma:Bool) (K:OpS→Prop):Prop:=
 match x,k,P.underlying t with
 | .mp es _,.v (.int .i64 n),some (.map kt et)=>(comma=true∧P.underlying kt=some (.int .i64))∧match Instr.findNow (.int .i64) (.int .i64 n) es.toList 0 with
   |some (some (_,v))=>K ⟨[],.tup [ofV v,.v (.bool true)],[]⟩
   |some none=>match tv P et with
    |some i=>K ⟨[],.tup [.v i.zero,.v (.bool false)],[]⟩
    |none=>False
   |none=>False
 |_,_,_=>False
def wU (P:Program) (t:TypeId) (x:AV) (comma:Bool) (K:OpS→Prop):Prop:=
 match comma with
 |false=>match x with
  | .iface s y=>match Nat.beq s t with
    |true=>P.concrete t=true∧K ⟨[],y,[]⟩
    |false=>False
  |_=>False
 |true=>match tv P t with
  |some i=>match i.k with
   | .struct _=>match x with
     | .iface s y=>match Nat.beq s t with
       |true=>K ⟨[],.tup [y,.v (.bool true)],[]⟩
       |false=>K ⟨[],.tup [.v i.zero,.v (.bool false)],[]⟩
     | .v .nilIface=>K ⟨[],.tup [.v i.zero,.v (.bool false)],[]⟩
     |_=>False
   |_=>False
  |none=>False
def wV (P:Program) (hyp:Prop) (t:TypeId) (x z:AV) (K:OpS→Prop):Prop:=
 match(tv P t).map TI.k,x,z with
 |some (.array n e),.agg l,.v (.int _ i)=>match tv P e with
  |some j=>match eD j.agg j.size (i.toNat*j.size) l with
   |some y=>(hyp→0≤i∧i<n)∧K ⟨[],y,[]⟩
   |none=>False
  |none=>False
 |_,_,_=>False
def tV (mx:Bool) (x y:AV) (K:OpS→Prop):Prop:=
 match x,y with
 | .v (.int k a),.v (.int k' b)=>k=k'∧K ⟨[],.v (.int k (cond mx (max a b) (min a b))),[]⟩
 |_,_=>False
def wW (x:AV) (i:Nat) (K:OpS→Prop):Prop:=match x with| .tup l=>(match l[i]? with|some y=>K ⟨[],y,[]⟩|none=>False)|_=>False
def wX (P:Program) (t:TypeId) (x:AV) (f:Nat) (K:OpS→Prop):Prop:=
 match(tv P t).map TI.k,x with
 |some (.struct fs),.agg l=>match fs[f]? with
  |some (fo,ft)=>match tv P ft with
   |some j=>match eD j.agg j.size fo l with
    |some y=>K ⟨[],y,[]⟩
    |none=>False
   |none=>False
  |none=>False
 |_,_=>False
def bW (P:Program) (cx:Cx) (hyp:Prop) (env:Env) (box:ay) (nm:Nat) (f:FuncId) (l:List AV) (o:Oper) (K:OpS→Prop):Prop:=
 Enters P o (az env) f l→dN P cx hyp env box nm o K
def wY (P:Program) (cx:Cx) (hyp:Prop) (env:Env) (box:ay) (nm:Nat) (o:Oper) (K:OpS→Prop):Prop:=dN P cx hyp env box nm o K
def bG (hyp:Prop):AV→Prop
 | .iff c _=>hyp→c=true
 |_=>True
def tX (hyp:Prop) (t b:Bool):AV→Prop
 | .iff c _=>hyp→t=b→c=true
 |_=>True
def tY (hyp:Prop) (env:Env):List Operand→Prop
 | []=>True
 |y::l=>bG hyp (aI env y)∧tY hyp env l
theorem G9 {hyp:Prop} {x:AV} (h:bG hyp x):hyp→x.cnd=true:=by
 cases x<;>simp[AV.cnd]
 exact h
theorem Ha {hyp:Prop} {t b:Bool} {x:AV} (h:tX hyp t b x):hyp→t=b→x.cnd=true:=by
 cases x<;>simp[AV.cnd]
 exact h
theorem OJ (t:Bool):(t=true→t=true)=True:=by simp
theorem OL (t:Bool):(t=false→(!t)=true)=True:=by simp
theorem OM (h:Prop) (t:Bool):(h→t=true→t=true)=True:=by simp
theorem OO (h:Prop) (t:Bool):(h→t=false→(!t)=true)=True:=by simp
theorem OP (s t:Bool):((s&&t)=true→s=true)=True:=by simp;intro h _;exact h
theorem OQ (s t:Bool):((s&&t)=true→t=true)=True:=by simp
theorem OT (h:Prop) (s t:Bool):(h→t=true→(s&&t)=true)=(h→t=true→s=true):=by
 refine propext ⟨fun k hh ht=> ?_,fun k hh ht=> ?_⟩
 ·have:=k hh ht;simp at this;exact this.1
 ·simp[k hh ht,ht]
theorem OU (h:Prop) (s t:Bool):(h→t=false→(s&& !t)=true)=(h→t=false→s=true):=by
 refine propext ⟨fun k hh ht=> ?_,fun k hh ht=> ?_⟩
 ·have:=k hh ht;simp at this;exact this.1
 ·simp[k hh ht,ht]
theorem OV (g:Bool) (t:Prop):(g=true→t→g=true)=True:=by simp;intro h _;exact h
def yZ (hyp:Prop) (env:Env) (c p q:Operand) (K:OpS→Prop):Prop:=
 match az env c with
 | .v (.bool t)=>(bG hyp (aI env c)∧tX hyp t true (aI env p)∧tX hyp t false (aI env q))∧K ⟨[],nU t (az env p) (az env q),[]⟩
 |_=>False
def wZ (P:Program) (cx:Cx) (hyp:Prop) (env:Env) (box:ay) (nm:Nat) (c:Call) (o:Oper) (K:OpS→Prop):Prop:=
 match c.callee,c.args.toList,c.argTypes.toList with
 | .value (.func f),_,_=>bW P cx hyp env box nm f (c.args.toList.map (az env)) o K
 | .value y,_,_=>match az env y with
   | .fn (.func f) first caps=>bW P cx hyp env box nm f (first++c.args.toList.map (az env)++caps) o K
   | .v (.func (.func f) ⟨[]⟩ ⟨[]⟩)=>bW P cx hyp env box nm f (c.args.toList.map (az env)) o K
   |_=>wY P cx hyp env box nm o K
 | .builtin .len,[y],[t]=>wR P t (az env y) K
 | .builtin .max,[x,y],_=>tV true (az env x) (az env y) K
 | .builtin .min,[x,y],_=>tV false (az env x) (az env y) K
 | .builtin .append,[s,x],[t,u]=>t=u∧appW P env box nm t s x K
 |_,_,_=>wY P cx hyp env box nm o K
def y9 (x:AV) (K:OpS→Prop):Prop:=match x with| .ptr b off=>K ⟨[],.ptr b off,[]⟩|_=>False
def bX (P:Program) (cx:Cx) (hyp:Prop) (env:Env) (box:ay) (nm:Nat) (o:Oper) (K:OpS→Prop):Prop:=
 match o.op with
 | .move y=>K ⟨[],az env y,[]⟩
 | .assign y=>K ⟨[],az env y,[]⟩
 | .load t y=>wD P env box t y K
 | .store t y u=>wF P env box t y u K
 | .fieldAddr s y f=>wG P env s y f K
 | .indexAddr t y z=>wH P hyp env t y z K
 | .binOp op t x y _=>wI P op t (isConst y) (az env x) (az env y) K
 | .unOp op _ x=>wK op (az env x) K
 | .convert s d x=>wJ P s d (az env x) K
 | .box t y=>G8 env nm t y K
 | .alloc t=>wL P nm t K
 | .build t parts=>wN P env t parts K
 | .buildSlice t len parts=>wO P env nm t len parts K
 | .slice t y lo hi mx=>wP P env t y lo hi mx K
 | .makeSlice t x y=>wQ P nm t (az env x) (az env y) K
 | .extract x i=>wW (az env x) i K
 | .makeInterface t y=>P.concrete t=true∧K ⟨[],.iface t (az env y),[]⟩
 | .typeAssert y _ t comma=>wU P t (az env y) comma K
 | .index t y z=>wV P hyp t (az env y) (az env z) K
 | .lookup t m k comma=>wT P t (az env m) (az env k) comma K
 | .field t x f=>wX P t (az env x) f K
 | .makeFunc f first caps=>K ⟨[],.fn f (first.toList.map (az env)) (caps.toList.map (az env)),[]⟩
 | .call c=>wZ P cx hyp env box nm c o K
 | .nilCheck y=>y9 (az env y) K
 |_=>wY P cx hyp env box nm o K
def iK (P:Program) (cx:Cx) (hyp:Prop) (env:Env) (box:ay) (nm:Nat) (o:Oper) (K:OpS→Prop):Prop:=
 match o.op with
 | .pick c p q=>yZ hyp env c p q K
 |op=>tY hyp env op.operands.toList∧bX P cx hyp env box nm o K
end Go.Proofs.YtlikpcpllahalaaGreat.V
