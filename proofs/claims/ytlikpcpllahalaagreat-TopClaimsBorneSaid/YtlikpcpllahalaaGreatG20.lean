/- Parts of the proof. -/
import Derived.Test.YtlikpcpllahalaaGreatG14
import Derived.Test.YtlikpcpllahalaaGreatG16
import Derived.Test.YtlikpcpllahalaaGreatG13
set_option linter.unusedSimpArgs false
set_option linter.unusedVariables false
set_option maxHeartbeats 16000000
namespace Go.Proofs.YtlikpcpllahalaaGreat.V
open Go.RowKit
set_option maxRecDepth 100000
def Int64 (n:Int):Prop:= -9223372036854775808≤n∧n≤9223372036854775807
structure Cover where
 peril:Int
 limit:Int
 agg:Int
 ded:Int
 share:Int
def Cover.ok (c:Cover):Prop:=Int64 c.peril∧Int64 c.limit∧Int64 c.agg∧Int64 c.ded∧Int64 c.share
@[go_sem] def Cover.flat (c:Cover):List AV:=[int c.peril,int c.limit,int c.agg,int c.ded,int c.share]
abbrev dz (l:List Cover):AV:= .sl false 5 (l.map Cover.flat)
theorem Cover.len (c:Cover):c.flat.length=5:=rfl
theorem Cover.data (c:Cover):c.flat.all AV.isData=true:=by simp[Cover.flat]
structure Terms where
 from_:Int
 to_:Int
 kind:Int
 value:Int
 age:Int
 zone:Int
 covers:List Cover
def Terms.ok (t:Terms):Prop:=(Int64 t.from_∧Int64 t.to_∧Int64 t.kind∧Int64 t.value∧Int64 t.age∧Int64 t.zone)∧∀c,c∈t.covers→c.ok
@[go_sem] def Terms.flat (t:Terms):List AV:=[int t.from_,int t.to_,int t.kind,int t.value,int t.age,int t.zone,dz t.covers]
structure Change where
 booked:Int
 day:Int
 kind:Int
 rk:Int
 rv:Int
 ra:Int
 rz:Int
 covers:List Cover
 way:Int
def Change.ok (c:Change):Prop:=(Int64 c.booked∧Int64 c.day∧Int64 c.kind∧Int64 c.rk∧Int64 c.rv∧Int64 c.ra∧Int64 c.rz∧Int64 c.way)∧∀x,x∈c.covers→x.ok
@[go_sem] def Change.flat (c:Change):List AV:=[int c.booked,int c.day,int c.kind,int c.rk,int c.rv,int c.ra,int c.rz,dz c.covers,int c.way]
abbrev jg (l:List Change):AV:= .sl false 9 (l.map Change.flat)
theorem Change.len (c:Change):c.flat.length=9:=rfl
theorem Change.data (c:Change):c.flat.all AV.isData=true:=by simp[Change.flat]
structure History where
 id:Int
 booked:Int
 terms:Terms
 changes:List Change
@[go_sem] def History.flat (h:History):List AV:=[int h.id,int h.booked,int h.terms.from_,int h.terms.to_,int h.terms.kind,int h.terms.value,int h.terms.age,int h.terms.zone,dz h.terms.covers,jg h.changes]
structure Claim where
 id:Int
 policy:Int
 peril:Int
 loss:Int
 booked:Int
 event:Int
deriving DecidableEq
@[go_sem] def Claim.flat (c:Claim):List AV:=[int c.id,int c.policy,int c.peril,int c.loss,int c.booked,int c.event]
structure Act where
 booked:Int
 kind:Int
 amt:Int
deriving DecidableEq
@[go_sem] def Act.flat (a:Act):List AV:=[int a.booked,int a.kind,int a.amt]
structure Treaty where
 id:Int
 kind:Int
 from_:Int
 to_:Int
 bp:Int
 attach:Int
 width:Int
 again:Int
 perils:Int
deriving DecidableEq
@[go_sem] def Treaty.flat (t:Treaty):List AV:=[int t.id,int t.kind,int t.from_,int t.to_,int t.bp,int t.attach,int t.width,int t.again,int t.perils]
structure Fact where
 booked:Int
 kind:Int
 id:Int
 amt:Int
 day:Int
 terms:Terms
 change:Change
 claim:Claim
 act:Act
 treaty:Treaty
@[go_sem] def Fact.flat (f:Fact):List AV:=[int f.booked,int f.kind,int f.id,int f.amt,int f.day,
 int f.terms.from_,int f.terms.to_,int f.terms.kind,int f.terms.value,int f.terms.age,int f.terms.zone,dz f.terms.covers,
 int f.change.booked,int f.change.day,int f.change.kind,int f.change.rk,int f.change.rv,int f.change.ra,int f.change.rz,dz f.change.covers,int f.change.way,
 int f.claim.id,int f.claim.policy,int f.claim.peril,int f.claim.loss,int f.claim.booked,int f.claim.event,
 int f.act.booked,int f.act.kind,int f.act.amt,
 int f.treaty.id,int f.treaty.kind,int f.treaty.from_,int f.treaty.to_,int f.treaty.bp,int f.treaty.attach,int f.treaty.width,int f.treaty.again,int f.treaty.perils]
abbrev facts (l:List Fact):AV:= .sl false 39 (l.map Fact.flat)
theorem Fact.len (c:Fact):c.flat.length=39:=rfl
structure Band where
 upto:Int
 bp:Int
deriving DecidableEq
@[go_sem] def Band.flat (b:Band):List AV:=[int b.upto,int b.bp]
@[go_sem] def ak (n:Int):List AV:=[int n]
abbrev ints (l:List Int):AV:= .sl false 1 (l.map ak)
structure Version where
 from_:Int
 b0:Int
 b1:Int
 b2:Int
 b3:Int
 age:List Band
 zone:List Int
 peril:List Int
 min:Int
deriving DecidableEq
@[go_sem] def Version.flat (v:Version):List AV:=[int v.from_,int v.b0,int v.b1,int v.b2,int v.b3,.sl false 2 (v.age.map Band.flat),ints v.zone,ints v.peril,int v.min]
abbrev dh (l:List Version):AV:= .sl false 9 (l.map Version.flat)
structure Journal where
 tariff:List Version
 facts:List Fact
@[go_sem] def Journal.flat (j:Journal):List AV:=[dh j.tariff,V.facts j.facts]
section
theorem run_eqGuard_agg {P:Program} {t:TypeId} {a b:Array Value} {x y:Operand} {w:World} (hg:P.eqGuardType P.depth t=false):(eqGuard .eql t x y (.agg a) (.agg b)).run P w= .ok () w:=by
 simp[eqGuard,hg]
set_option maxHeartbeats 1000000 in
set_option maxRecDepth 100000 in
@[go_sem] theorem eqIntsSpan:nW Tryz.prog 53 2:=by
 intro xs ys hx hy w
 obtain⟨x0,xs,rfl⟩:=List.exists_cons_of_length_pos (l:=xs) byOmega
 simp only[List.length_cons] at hx
 obtain⟨x1,xs,rfl⟩:=List.exists_cons_of_length_pos (l:=xs) byOmega
 simp only[List.length_cons] at hx
 obtain rfl:xs=[]:=List.eq_nil_of_length_eq_zero byOmega
 obtain⟨y0,ys,rfl⟩:=List.exists_cons_of_length_pos (l:=ys) byOmega
 simp only[List.length_cons] at hy
 obtain⟨y1,ys,rfl⟩:=List.exists_cons_of_length_pos (l:=ys) byOmega
 simp only[List.length_cons] at hy
 obtain rfl:ys=[]:=List.eq_nil_of_length_eq_zero byOmega
 clear hx hy
 have hS:Tryz.prog.underlying 53=some (.struct (Tryz.prog.fieldsOf 53)):=aA
 have hp:Tryz.prog.stoodInHeld 53=false:=aA
 have hg:Tryz.prog.eqGuardType Tryz.prog.depth 53=false:=aA
 rw[Sem.run_bind,run_eqGuard_agg hg,Result.andThen_ok]
 refine(?_:∀d,(Op.equalIn (d+2+1) 53 _ _).run Tryz.prog w=_) 9997
 intro d
 rw[run_equalIn_agg w (d+2) 53 _ _ hS hp]
 clear hS hp hg
 simp only[Program.fieldsOf,Tryz.underlying53,List.map_cons,List.map_nil]
 go_simp
 by_cases h0:x0=y0
 rotate_left
 ·simp[h0]
 by_cases h1:x1=y1
 rotate_left
 ·simp[h1]
 simp[h0,h1]
set_option maxHeartbeats 1000000 in
set_option maxRecDepth 100000 in
@[go_sem] theorem eqIntsAct:nW Tryz.prog 97 3:=by
 intro xs ys hx hy w
 obtain⟨x0,xs,rfl⟩:=List.exists_cons_of_length_pos (l:=xs) byOmega
 simp only[List.length_cons] at hx
 obtain⟨x1,xs,rfl⟩:=List.exists_cons_of_length_pos (l:=xs) byOmega
 simp only[List.length_cons] at hx
 obtain⟨x2,xs,rfl⟩:=List.exists_cons_of_length_pos (l:=xs) byOmega
 simp only[List.length_cons] at hx
 obtain rfl:xs=[]:=List.eq_nil_of_length_eq_zero byOmega
 obtain⟨y0,ys,rfl⟩:=List.exists_cons_of_length_pos (l:=ys) byOmega
 simp only[List.length_cons] at hy
 obtain⟨y1,ys,rfl⟩:=List.exists_cons_of_length_pos (l:=ys) byOmega
 simp only[List.length_cons] at hy
 obtain⟨y2,ys,rfl⟩:=List.exists_cons_of_length_pos (l:=ys) byOmega
 simp only[List.length_cons] at hy
 obtain rfl:ys=[]:=List.eq_nil_of_length_eq_zero byOmega
 clear hx hy
 have hS:Tryz.prog.underlying 97=some (.struct (Tryz.prog.fieldsOf 97)):=aA
 have hp:Tryz.prog.stoodInHeld 97=false:=aA
 have hg:Tryz.prog.eqGuardType Tryz.prog.depth 97=false:=aA
 rw[Sem.run_bind,run_eqGuard_agg hg,Result.andThen_ok]
 refine(?_:∀d,(Op.equalIn (d+2+1) 97 _ _).run Tryz.prog w=_) 9997
 intro d
 rw[run_equalIn_agg w (d+2) 97 _ _ hS hp]
 clear hS hp hg
 simp only[Program.fieldsOf,Tryz.underlying97,List.map_cons,List.map_nil]
 go_simp
 by_cases h0:x0=y0
 rotate_left
 ·simp[h0]
 by_cases h1:x1=y1
 rotate_left
 ·simp[h1]
 by_cases h2:x2=y2
 rotate_left
 ·simp[h2]
 simp[h0,h1,h2]
set_option maxHeartbeats 1000000 in
set_option maxRecDepth 100000 in
@[go_sem] theorem eqIntsRisk:nW Tryz.prog 101 4:=by
 intro xs ys hx hy w
 obtain⟨x0,xs,rfl⟩:=List.exists_cons_of_length_pos (l:=xs) byOmega
 simp only[List.length_cons] at hx
 obtain⟨x1,xs,rfl⟩:=List.exists_cons_of_length_pos (l:=xs) byOmega
 simp only[List.length_cons] at hx
 obtain⟨x2,xs,rfl⟩:=List.exists_cons_of_length_pos (l:=xs) byOmega
 simp only[List.length_cons] at hx
 obtain⟨x3,xs,rfl⟩:=List.exists_cons_of_length_pos (l:=xs) byOmega
 simp only[List.length_cons] at hx
 obtain rfl:xs=[]:=List.eq_nil_of_length_eq_zero byOmega
 obtain⟨y0,ys,rfl⟩:=List.exists_cons_of_length_pos (l:=ys) byOmega
 simp only[List.length_cons] at hy
 obtain⟨y1,ys,rfl⟩:=List.exists_cons_of_length_pos (l:=ys) byOmega
 simp only[List.length_cons] at hy
 obtain⟨y2,ys,rfl⟩:=List.exists_cons_of_length_pos (l:=ys) byOmega
 simp only[List.length_cons] at hy
 obtain⟨y3,ys,rfl⟩:=List.exists_cons_of_length_pos (l:=ys) byOmega
 simp only[List.length_cons] at hy
 obtain rfl:ys=[]:=List.eq_nil_of_length_eq_zero byOmega
 clear hx hy
 have hS:Tryz.prog.underlying 101=some (.struct (Tryz.prog.fieldsOf 101)):=aA
 have hp:Tryz.prog.stoodInHeld 101=false:=aA
 have hg:Tryz.prog.eqGuardType Tryz.prog.depth 101=false:=aA
 rw[Sem.run_bind,run_eqGuard_agg hg,Result.andThen_ok]
 refine(?_:∀d,(Op.equalIn (d+2+1) 101 _ _).run Tryz.prog w=_) 9997
 intro d
 rw[run_equalIn_agg w (d+2) 101 _ _ hS hp]
 clear hS hp hg
 simp only[Program.fieldsOf,Tryz.underlying101,List.map_cons,List.map_nil]
 go_simp
 by_cases h0:x0=y0
 rotate_left
 ·simp[h0]
 by_cases h1:x1=y1
 rotate_left
 ·simp[h1]
 by_cases h2:x2=y2
 rotate_left
 ·simp[h2]
 by_cases h3:x3=y3
 rotate_left
 ·simp[h3]
 simp[h0,h1,h2,h3]
set_option maxHeartbeats 1000000 in
set_option maxRecDepth 100000 in
@[go_sem] theorem eqIntsCover:nW Tryz.prog 44 5:=by
 intro xs ys hx hy w
 obtain⟨x0,xs,rfl⟩:=List.exists_cons_of_length_pos (l:=xs) byOmega
 simp only[List.length_cons] at hx
 obtain⟨x1,xs,rfl⟩:=List.exists_cons_of_length_pos (l:=xs) byOmega
 simp only[List.length_cons] at hx
 obtain⟨x2,xs,rfl⟩:=List.exists_cons_of_length_pos (l:=xs) byOmega
 simp only[List.length_cons] at hx
 obtain⟨x3,xs,rfl⟩:=List.exists_cons_of_length_pos (l:=xs) byOmega
 simp only[List.length_cons] at hx
 obtain⟨x4,xs,rfl⟩:=List.exists_cons_of_length_pos (l:=xs) byOmega
 simp only[List.length_cons] at hx
 obtain rfl:xs=[]:=List.eq_nil_of_length_eq_zero byOmega
 obtain⟨y0,ys,rfl⟩:=List.exists_cons_of_length_pos (l:=ys) byOmega
 simp only[List.length_cons] at hy
 obtain⟨y1,ys,rfl⟩:=List.exists_cons_of_length_pos (l:=ys) byOmega
 simp only[List.length_cons] at hy
 obtain⟨y2,ys,rfl⟩:=List.exists_cons_of_length_pos (l:=ys) byOmega
 simp only[List.length_cons] at hy
 obtain⟨y3,ys,rfl⟩:=List.exists_cons_of_length_pos (l:=ys) byOmega
 simp only[List.length_cons] at hy
 obtain⟨y4,ys,rfl⟩:=List.exists_cons_of_length_pos (l:=ys) byOmega
 simp only[List.length_cons] at hy
 obtain rfl:ys=[]:=List.eq_nil_of_length_eq_zero byOmega
 clear hx hy
 have hS:Tryz.prog.underlying 44=some (.struct (Tryz.prog.fieldsOf 44)):=aA
 have hp:Tryz.prog.stoodInHeld 44=false:=aA
 have hg:Tryz.prog.eqGuardType Tryz.prog.depth 44=false:=aA
 rw[Sem.run_bind,run_eqGuard_agg hg,Result.andThen_ok]
 refine(?_:∀d,(Op.equalIn (d+2+1) 44 _ _).run Tryz.prog w=_) 9997
 intro d
 rw[run_equalIn_agg w (d+2) 44 _ _ hS hp]
 clear hS hp hg
 simp only[Program.fieldsOf,Tryz.underlying44,List.map_cons,List.map_nil]
 go_simp
 by_cases h0:x0=y0
 rotate_left
 ·simp[h0]
 by_cases h1:x1=y1
 rotate_left
 ·simp[h1]
 by_cases h2:x2=y2
 rotate_left
 ·simp[h2]
 by_cases h3:x3=y3
 rotate_left
 ·simp[h3]
 by_cases h4:x4=y4
 rotate_left
 ·simp[h4]
 simp[h0,h1,h2,h3,h4]
set_option maxHeartbeats 1000000 in
set_option maxRecDepth 100000 in
@[go_sem] theorem eqIntsClaim:nW Tryz.prog 92 6:=by
 intro xs ys hx hy w
 obtain⟨x0,xs,rfl⟩:=List.exists_cons_of_length_pos (l:=xs) byOmega
 simp only[List.length_cons] at hx
 obtain⟨x1,xs,rfl⟩:=List.exists_cons_of_length_pos (l:=xs) byOmega
 simp only[List.length_cons] at hx
 obtain⟨x2,xs,rfl⟩:=List.exists_cons_of_length_pos (l:=xs) byOmega
 simp only[List.length_cons] at hx
 obtain⟨x3,xs,rfl⟩:=List.exists_cons_of_length_pos (l:=xs) byOmega
 simp only[List.length_cons] at hx
 obtain⟨x4,xs,rfl⟩:=List.exists_cons_of_length_pos (l:=xs) byOmega
 simp only[List.length_cons] at hx
 obtain⟨x5,xs,rfl⟩:=List.exists_cons_of_length_pos (l:=xs) byOmega
 simp only[List.length_cons] at hx
 obtain rfl:xs=[]:=List.eq_nil_of_length_eq_zero byOmega
 obtain⟨y0,ys,rfl⟩:=List.exists_cons_of_length_pos (l:=ys) byOmega
 simp only[List.length_cons] at hy
 obtain⟨y1,ys,rfl⟩:=List.exists_cons_of_length_pos (l:=ys) byOmega
 simp only[List.length_cons] at hy
 obtain⟨y2,ys,rfl⟩:=List.exists_cons_of_length_pos (l:=ys) byOmega
 simp only[List.length_cons] at hy
 obtain⟨y3,ys,rfl⟩:=List.exists_cons_of_length_pos (l:=ys) byOmega
 simp only[List.length_cons] at hy
 obtain⟨y4,ys,rfl⟩:=List.exists_cons_of_length_pos (l:=ys) byOmega
 simp only[List.length_cons] at hy
 obtain⟨y5,ys,rfl⟩:=List.exists_cons_of_length_pos (l:=ys) byOmega
 simp only[List.length_cons] at hy
 obtain rfl:ys=[]:=List.eq_nil_of_length_eq_zero byOmega
 clear hx hy
 have hS:Tryz.prog.underlying 92=some (.struct (Tryz.prog.fieldsOf 92)):=aA
 have hp:Tryz.prog.stoodInHeld 92=false:=aA
 have hg:Tryz.prog.eqGuardType Tryz.prog.depth 92=false:=aA
 rw[Sem.run_bind,run_eqGuard_agg hg,Result.andThen_ok]
 refine(?_:∀d,(Op.equalIn (d+2+1) 92 _ _).run Tryz.prog w=_) 9997
 intro d
 rw[run_equalIn_agg w (d+2) 92 _ _ hS hp]
 clear hS hp hg
 simp only[Program.fieldsOf,Tryz.underlying92,List.map_cons,List.map_nil]
 go_simp
 by_cases h0:x0=y0
 rotate_left
 ·simp[h0]
 by_cases h1:x1=y1
 rotate_left
 ·simp[h1]
 by_cases h2:x2=y2
 rotate_left
 ·simp[h2]
 by_cases h3:x3=y3
 rotate_left
 ·simp[h3]
 by_cases h4:x4=y4
 rotate_left
 ·simp[h4]
 by_cases h5:x5=y5
 rotate_left
 ·simp[h5]
 simp[h0,h1,h2,h3,h4,h5]
set_option maxHeartbeats 1000000 in
set_option maxRecDepth 100000 in
@[go_sem] theorem eqIntsTreaty:nW Tryz.prog 55 9:=by
 intro xs ys hx hy w
 obtain⟨x0,xs,rfl⟩:=List.exists_cons_of_length_pos (l:=xs) byOmega
 simp only[List.length_cons] at hx
 obtain⟨x1,xs,rfl⟩:=List.exists_cons_of_length_pos (l:=xs) byOmega
 simp only[List.length_cons] at hx
 obtain⟨x2,xs,rfl⟩:=List.exists_cons_of_length_pos (l:=xs) byOmega
 simp only[List.length_cons] at hx
 obtain⟨x3,xs,rfl⟩:=List.exists_cons_of_length_pos (l:=xs) byOmega
 simp only[List.length_cons] at hx
 obtain⟨x4,xs,rfl⟩:=List.exists_cons_of_length_pos (l:=xs) byOmega
 simp only[List.length_cons] at hx
 obtain⟨x5,xs,rfl⟩:=List.exists_cons_of_length_pos (l:=xs) byOmega
 simp only[List.length_cons] at hx
 obtain⟨x6,xs,rfl⟩:=List.exists_cons_of_length_pos (l:=xs) byOmega
 simp only[List.length_cons] at hx
 obtain⟨x7,xs,rfl⟩:=List.exists_cons_of_length_pos (l:=xs) byOmega
 simp only[List.length_cons] at hx
 obtain⟨x8,xs,rfl⟩:=List.exists_cons_of_length_pos (l:=xs) byOmega
 simp only[List.length_cons] at hx
 obtain rfl:xs=[]:=List.eq_nil_of_length_eq_zero byOmega
 obtain⟨y0,ys,rfl⟩:=List.exists_cons_of_length_pos (l:=ys) byOmega
 simp only[List.length_cons] at hy
 obtain⟨y1,ys,rfl⟩:=List.exists_cons_of_length_pos (l:=ys) byOmega
 simp only[List.length_cons] at hy
 obtain⟨y2,ys,rfl⟩:=List.exists_cons_of_length_pos (l:=ys) byOmega
 simp only[List.length_cons] at hy
 obtain⟨y3,ys,rfl⟩:=List.exists_cons_of_length_pos (l:=ys) byOmega
 simp only[List.length_cons] at hy
 obtain⟨y4,ys,rfl⟩:=List.exists_cons_of_length_pos (l:=ys) byOmega
 simp only[List.length_cons] at hy
 obtain⟨y5,ys,rfl⟩:=List.exists_cons_of_length_pos (l:=ys) byOmega
 simp only[List.length_cons] at hy
 obtain⟨y6,ys,rfl⟩:=List.exists_cons_of_length_pos (l:=ys) byOmega
 simp only[List.length_cons] at hy
 obtain⟨y7,ys,rfl⟩:=List.exists_cons_of_length_pos (l:=ys) byOmega
 simp only[List.length_cons] at hy
 obtain⟨y8,ys,rfl⟩:=List.exists_cons_of_length_pos (l:=ys) byOmega
 simp only[List.length_cons] at hy
 obtain rfl:ys=[]:=List.eq_nil_of_length_eq_zero byOmega
 clear hx hy
 have hS:Tryz.prog.underlying 55=some (.struct (Tryz.prog.fieldsOf 55)):=aA
 have hp:Tryz.prog.stoodInHeld 55=false:=aA
 have hg:Tryz.prog.eqGuardType Tryz.prog.depth 55=false:=aA
 have kS:∀(d:Nat) (a b c e:Int) (w:World),(Op.equalIn (d+1+1) 53 (.agg #[.int .i64 a,.int .i64 b]) (.agg #[.int .i64 c,.int .i64 e])).run Tryz.prog w= .ok (decide (a=c∧b=e)) w:=by
  intro d a b c e w
  have hS:Tryz.prog.underlying 53=some (.struct (Tryz.prog.fieldsOf 53)):=aA
  have hp:Tryz.prog.stoodInHeld 53=false:=aA
  rw[run_equalIn_agg w (d+1) 53 _ _ hS hp]
  clear hS hp
  simp only[Program.fieldsOf,Tryz.underlying53]
  go_simp
  by_cases h0:a=c<;>by_cases h1:b=e<;>simp[h0,h1]
 rw[Sem.run_bind,run_eqGuard_agg hg,Result.andThen_ok]
 refine(?_:∀d,(Op.equalIn (d+2+1) 55 _ _).run Tryz.prog w=_) 9997
 intro d
 rw[run_equalIn_agg w (d+2) 55 _ _ hS hp]
 clear hS hp hg
 simp only[Program.fieldsOf,Tryz.underlying55,List.map_cons,List.map_nil]
 go_simp
 by_cases h0:x0=y0
 rotate_left
 ·simp[h0]
 by_cases h1:x1=y1
 rotate_left
 ·simp[h1]
 by_cases h2:x2=y2
 rotate_left
 ·simp[h2]
 by_cases h3:x3=y3
 rotate_left
 ·simp[h3]
 by_cases h4:x4=y4
 rotate_left
 ·simp[h4]
 by_cases h5:x5=y5
 rotate_left
 ·simp[h5]
 by_cases h6:x6=y6
 rotate_left
 ·simp[h6]
 by_cases h7:x7=y7
 rotate_left
 ·simp[h7]
 by_cases h8:x8=y8
 rotate_left
 ·simp[h8]
 simp[h0,h1,h2,h3,h4,h5,h6,h7,h8]
end
deriving instance DecidableEq for Cover
deriving instance DecidableEq for Terms
deriving instance DecidableEq for Change
deriving instance DecidableEq for History
theorem Ta {α:Type} {a b:List α} {i:Nat} (hi:i<a.length) (hj:i<b.length) (h:a.take i=b.take i) (he:a[i]=b[i]):a.take (i+1)=b.take (i+1):=by
 rw[List.take_succ_eq_append_getElem hi,List.take_succ_eq_append_getElem hj,h,he]
theorem take_eq_all {α:Type} {a b:List α} {i:Nat} (hn:a.length=b.length) (hi:¬i<a.length) (h:a.take i=b.take i):a=b:=by
 rwa [List.take_of_length_le byOmega,List.take_of_length_le byOmega] at h
theorem Tc {α:Type} {a b:List α} {i:Nat} (hi:i<a.length) (hj:i<b.length) (h:¬a[i]=b[i]):¬a=b:=by
 intro e;subst e;exact h rfl
theorem Ju {a b:Cover}:([a.peril,a.limit,a.agg,a.ded,a.share]=[b.peril,b.limit,b.agg,b.ded,b.share])↔a=b:=by
 cases a;cases b;simp
theorem Td {α:Type} {p:α→Bool} {l:List α} {i:Nat} (hi:i<l.length) (h:p l[i]=true):(l.take (i+1)).filter p=(l.take i).filter p++[l[i]]:=by
 rw[List.take_succ_eq_append_getElem hi,List.filter_append]
 simp[h]
theorem Te {α:Type} {p:α→Bool} {l:List α} {i:Nat} (hi:i<l.length) (h:p l[i]=false):(l.take (i+1)).filter p=(l.take i).filter p:=by
 rw[List.take_succ_eq_append_getElem hi,List.filter_append]
 simp[h]
def kH (b k:Nat) {α:Type} (l:List α):AV:=if l.length=0 then .v (.slice none 0 0) else .osl b k 0 l.length
theorem uF {b k:Nat} {α:Type} {l:List α} (h:l=[]):kH b k l= .v (.slice none 0 0):=by simp[kH,h]
theorem Jv {b k:Nat} {α:Type} {l:List α} (h:¬l=[]):kH b k l= .osl b k 0 l.length:=by simp[kH,h]
theorem uG {b k:Nat} {α:Type} (l:List α) (x:α):kH b k (l++[x])= .osl b k 0 (l.length+1):=by simp[kH]
def kI (t:TypeId) {α:Type} (F:α→List AV) (l:List α):Option Bx:=if l.length=0 then none else some ⟨t,(l.map F).flatten⟩
theorem uH {t:TypeId} {α:Type} {F:α→List AV} {l:List α} (h:l=[]):kI t F l=none:=by simp[kI,h]
theorem uI {t:TypeId} {α:Type} {F:α→List AV} {l:List α} (h:¬l=[]):kI t F l=some ⟨t,(l.map F).flatten⟩:=by simp[kI,h]
theorem Jw {t:TypeId} {α:Type} {F:α→List AV} (l:List α) (x:α):kI t F (l++[x])=some ⟨t,(l.map F).flatten++F x⟩:=by simp[kI]
@[go_sem] def eG (b c:Nat) (x:Nat):Nat:=if x=b then c else x
theorem jh {α:Type} {F:α→List AV} (hF:∀x r,(F x).map (AV.ren r)=F x) (r:Nat→Nat):∀l:List α,((l.map F).flatten).map (AV.ren r)=(l.map F).flatten
 | []=>rfl
 |x::l=>by rw[List.map_cons,List.flatten_cons,List.map_append,hF,jh hF r l]
theorem ji {α:Type} {F:α→List AV} (hF:∀x p,(F x).all (AV.names p)=true) (p:Nat→Bool):∀l:List α,((l.map F).flatten).all (AV.names p)=true
 | []=>rfl
 |x::l=>by rw[List.map_cons,List.flatten_cons,List.all_append,hF,ji hF p l];rfl
theorem Ed {α:Type} {F:α→List AV} {k:Nat} (hk:∀x,(F x).length=k) (l:List α):((l.map F).flatten).length=l.length*k:=by
 have:=yS (l.map F) (bS hk l)
 rwa [List.length_map] at this
def aa {α:Type} (F:α→List AV) (l:List α):List AV:=(l.map F).flatten
theorem dU {α:Type} {F:α→List AV} {k:Nat} (hk:∀x,(F x).length=k) (l:List α):(aa F l).length=l.length*k:=Ed hk l
@[go_sem] theorem lF (r:Nat→Nat) (l:List Int):(aa ak l).map (AV.ren r)=aa ak l:=jh (fun x r=>by simp[ak]) r l
@[go_sem] theorem kJ (p:Nat→Bool) (l:List Int):(aa ak l).all (AV.names p)=true:=ji (fun x p=>by simp[ak]) p l
theorem p8 (p:Nat→Bool) (l:List Int):(∀x,x∈aa ak l→AV.names p x=true)↔True:=by
 simp only[iff_true]
 exact List.all_eq_true.1 (kJ p l)
theorem Jy (l:List Int) (i:Nat):(aa ak l)[i]? =(l[i]?).map fun n=>int n:=by
 unfold aa
 induction l generalizing i with
 |nil=>simp
 |cons x l ih=>
  rcases i with _|i
  ·simp[ak]
  ·simpa[ak] using ih i
theorem iG {l:List Int} {i:Nat} {x:Int} (h:l[i]? =some x):(aa ak l)[i]? =some (int x):=by rw[Jy,h];rfl
theorem uJ (l:List Int):aa ak l=l.map fun n=>int n:=by
 unfold aa
 induction l with
 |nil=>rfl
 |cons x l ih=>simp[ak];simpa[ak] using ih
theorem Jz {l:List Int} (h:l≠ []):(aa ak l=[])↔False:=by simp[uJ,h]
theorem cz (l:List Int):(aa ak l).length=l.length:=by simp[uJ]
theorem mW (l:List Int) (i:Nat) (x:Int) (h:i<l.length):List.take i (aa ak l)++[int x]++List.drop (i+1) (aa ak l)=aa ak (l.set i x):=by
 rw[uJ,uJ,List.map_set,List.set_eq_take_append_cons_drop,if_pos (by simpa using h)]
 simp
theorem fF {l:List Int} (h:0<l.length):(aa ak l=[])↔False:=Jz (by intro e;subst e;simp at h)
@[go_sem] def xG (p:Int×Int):List AV:=[int p.1,int p.2]
@[go_sem] theorem rowP_ren (r:Nat→Nat) (l:List (Int×Int)):(aa xG l).map (AV.ren r)=aa xG l:=jh (fun x r=>by simp[xG]) r l
@[go_sem] theorem rowP_nms (p:Nat→Bool) (l:List (Int×Int)):(aa xG l).all (AV.names p)=true:=ji (fun x p=>by simp[xG]) p l
theorem uK {α:Type} (F:α→List AV) (l:List α) (x:α):aa F (l++[x])=aa F l++F x:=by simp[aa]
@[go_sem] theorem factRows_ren (r:Nat→Nat) (l:List Fact):((l.map Fact.flat).flatten).map (AV.ren r)=(l.map Fact.flat).flatten:=jh (fun x r=>by simp[Fact.flat]) r l
@[go_sem] theorem factRows_nms (p:Nat→Bool) (l:List Fact):((l.map Fact.flat).flatten).all (AV.names p)=true:=ji (fun x p=>by simp[Fact.flat]) p l
section
attribute [local go_sem] Option.toList_some Option.toList_none Int.reduceEq Int.reduceNe Int.reduceLT Int.reduceLE Int.reduceToNat
theorem Tf (a b c:Int):aC Tryz.prog 273 [(0,⟨214,[.sl true 3 []]⟩)] [.ptr 0 0,.iface 216 (.agg [int a,int b,int c])] (.tup []) [(0,some ⟨214,[.osl 1 3 0 1]⟩),(1,some ⟨216,[int a,int b,int c]⟩)]:=by
 refine fu 2 Tryz.func273 rfl (Nat.le_of_ble_eq_true rfl) (by simp[go_sem]) fun cx hN hR hF hL=> ?_;apply fw;(case hA=>(simp only[go_sem,↓reduceIte];rfl));(case hB=>(simp only[go_sem,↓reduceIte];rfl))
 refine iM (aL ?_)
 refine' run tt (l2 ?_ (l4 fun K hK=> ?_))
 ·refine⟨eG 1 58,⟨[],[(0,some ⟨214,[.osl 1 3 0 1]⟩),(1,some ⟨216,[int a,int b,int c]⟩)],2⟩,?_,?_⟩
  ·simp only[go_sem,↓reduceIte,hF]
   refine fun b g h=> ?_
   have:=hF b g h
   simp[inl] at this
   subst this
   simp
  ·exact run tt tt
 all_goals simp[maxLen]
theorem Tg (a b c:Int):aC Tryz.prog 274 [(1,⟨216,[int a,int b,int c]⟩)] [.osl 1 3 0 1,int 0,int 0] (.tup []) []:=by
 refine aW 2 Tryz.func274 (fun cx hN hR hF hL=> ?_)
 exact run tt tt
theorem zV (l:List (List AV)) (f:Bool):Fun Tryz.prog 98 [.sl f 3 l] (int l.length):=by
 refine af Tryz.func98 fun cx hN hR hF hL=> ?_
 exact run tt tt
theorem Ti (a b c:Int):aC Tryz.prog 272 [(0,⟨214,[.osl 1 3 0 1]⟩),(1,⟨216,[int a,int b,int c]⟩)] [.ptr 0 0] (.iface 216 (.agg [int a,int b,int c])) [(0,some ⟨214,[.osl 1 3 0 0]⟩)]:=by
 have a4:IntKind.i64.wrap (((1:Nat):Int)-1)=0:=rfl
 refine aW 2 Tryz.func272 (fun cx hN hR hF hL=> ?_)
 exact run a4 tt
theorem Tj (a b c:Int):aC Tryz.prog 137 [(0,⟨214,[.osl 1 3 0 1]⟩),(1,⟨216,[int a,int b,int c]⟩)] [.iface 212 (.ptr 0 0),int 0] (.tup []) []:=by
 have w1:IntKind.i64.wrap (0-1)= -1:=rfl
 have w2:IntKind.i64.wrap (Int.tdiv (-1) 2)=0:=rfl
 refine aW 2 Tryz.func137 (fun cx hN hR hF hL=> ?_)
 refine' run tt (l1 ?_)
 refine bU 2 ?_
 exact run (I w1 w2) tt
theorem Tk (a b c:Int):aC Tryz.prog 138 [(0,⟨214,[.osl 1 3 0 1]⟩),(1,⟨216,[int a,int b,int c]⟩)] [.iface 212 (.ptr 0 0),int 0,int 0] (bool false) []:=by
 have w1:IntKind.i64.wrap (2*0)=0:=rfl
 have w2:IntKind.i64.wrap (0+1)=1:=rfl
 refine aW 2 Tryz.func138 (fun cx hN hR hF hL=> ?_)
 refine' run tt (l1 ?_)
 refine bU 2 ?_
 exact run (I w1 (I w2 (I (@ge_iff_le Int _) ((@gt_iff_lt Int _))))) tt
end
section
attribute [local go_sem] Option.toList_some Option.toList_none Int.reduceEq Int.reduceNe Int.reduceLT Int.reduceLE Int.reduceToNat
theorem Tm (a b c:Int):aC Tryz.prog 97 [(0,⟨214,[.sl true 3 []]⟩)] [.iface 212 (.ptr 0 0),.iface 216 (.agg [int a,int b,int c])] (.tup []) [(0,some ⟨214,[.osl 1 3 0 1]⟩),(1,some ⟨216,[int a,int b,int c]⟩)]:=by
 have kl:=zV [[int a,int b,int c]] false
 refine fu 2 Tryz.func97 rfl (Nat.le_of_ble_eq_true rfl) (by simp[go_sem]) fun cx hN hR hF hL=> ?_;apply fw;(case hA=>(simp only[go_sem,↓reduceIte];rfl));(case hB=>(simp only[go_sem,↓reduceIte];rfl))
 refine iM (aL ?_)
 refine' gJ tt (I gK (I gL (I fK fZ))) (l4 fun K hK=> ?_)
 (refine aB [0,18] (Tf a b c) ?_)
 (revert K;refine bK ?_;refine' gJ tt (I gK (I gL (I fK fZ))) (l4 fun K hK=> ?_))
 refine hold ?_
 apply I8 (b:=0) (bx:=⟨214,[.osl 18 3 0 1]⟩) (hI:=fK) (hc:=C9) (hT:=CZ) (ns:=[18]) (hF:=kl)
 case ho|hρ|hb|hx|hp|hl=>rfl
 case hne|hfx|hns=>simp[AV.flat0,lw]
 case hc0=>simp[go_sem]
 case hfz=>simp[go_sem,aH]
 have w1:IntKind.i64.wrap (((1:Nat):Int)-1)=0:=rfl
 simp only[List.length_singleton]
 (revert K;refine bK ?_;refine' gJ w1 (I gK (I gL (I fK fZ))) (l4 fun K hK=> ?_))
 (refine aB [0,18] (Tj a b c) ?_)
 (revert K;refine bK ?_;refine' gJ w1 (I gK (I gL (I fK fZ))) (l1 ?_))
 refine⟨eG 1 18,⟨[],[(0,some ⟨214,[.osl 1 3 0 1]⟩),(1,some ⟨216,[int a,int b,int c]⟩)],2⟩,?_,?_⟩
 ·simp only[go_sem,↓reduceIte,hF]
  refine fun b g h=> ?_
  have:=hF b g h
  simp[inl] at this
  subst this
  simp
 ·exact gJ tt (I gK (I gL (I fK fZ))) tt
theorem Tn (a b c:Int):aC Tryz.prog 99 [(0,⟨214,[.osl 1 3 0 1]⟩),(1,⟨216,[int a,int b,int c]⟩)] [.iface 212 (.ptr 0 0)] (.iface 216 (.agg [int a,int b,int c])) [(0,some ⟨214,[.osl 1 3 0 0]⟩)]:=by
 have kl:=zV [[int a,int b,int c]] false
 have w1:IntKind.i64.wrap (((1:Nat):Int)-1)=0:=rfl
 refine aW 2 Tryz.func99 (fun cx hN hR hF hL=> ?_)
 refine' gJ tt (I gK (I gL (I fK fZ))) (l4 fun K hK=> ?_)
 refine hold ?_
 apply I8 (b:=0) (bx:=⟨214,[.osl 1 3 0 1]⟩) (hI:=fK) (hc:=C9) (hT:=CZ) (ns:=[1]) (hF:=kl)
 case ho|hρ|hb|hx|hp|hl=>rfl
 case hne|hfx|hns=>simp[AV.flat0,lw]
 case hc0=>simp[go_sem]
 case hfz=>simp[go_sem,aH]
 simp only[List.length_singleton]
 (revert K;refine bK ?_;refine' gJ w1 (I gK (I gL (I fK fZ))) (l4 fun K hK=> ?_))
 refine hold ?_
 apply Su (b:=0) (bx:=⟨214,[.osl 1 3 0 1]⟩) (hI:=fZ) (hc:=Ie) (hT:=CZ) (r:=[0,1]) (hF:=Tg a b c)
 case ho|hρ|hb|hx=>rfl
 case hne|hns=>simp[lw]
 case h1|h2|h3=>(simp only[go_sem,↓reduceIte];try rfl)
 case hc0|hl|hs|hfp|hfr|hd=>simp[go_sem]
 (revert K;refine bK ?_;refine' gJ tt (I gK (I gL (I fK fZ))) (l4 fun K hK=> ?_))
 (refine aB [0,1] (Tk a b c) ?_)
 (revert K;refine bK ?_;refine' gJ tt (I gK (I gL (I fK fZ))) (l4 fun K hK=> ?_))
 (refine aB [0,1] (Ti a b c) ?_)
 (revert K;refine bK ?_;exact gJ tt (I gK (I gL (I fK fZ))) tt)
theorem Tp:Fun Tryz.prog 47 [.sl false 9 [[int 2,int 1,int 1,int 101,int 5000,int 0,int 0,int 0,int 255]]] (ints [0]):=by
 have a3:IntKind.i64.wrap (0+1)=1:=rfl
 have a4:((1:Nat):Int)=1:=rfl
 refine lq Tryz.func47 rfl (Nat.le_of_ble_eq_true rfl) fun cx hN hR hF hL=> ?_;apply dS;(case hA=>(simp only[go_sem,↓reduceIte];rfl))
 (refine aD ?_)
 refine' gJ tt (I gK (I gL (I fK fZ))) (l1 ?_)
 refine eX ?_
 refine SB ⟨[],.sl true 3 [],[]⟩ rfl (by rw[hN];kernel_rfl) rfl (SA rfl Tryz.underlying214 PM) rfl rfl ?_
 refine' gJ tt (I gK (I gL (I fK fZ))) (l1 ?_)
 refine⟨2000,by decide,?_⟩
 show aY _ _ _ _ _
 simp only[dA]
 refine aL ?_
 refine' gJ (I a3 a4) (I gK (I gL (I fK fZ))) (l1 ?_)
 refine bU 3 ?_
 refine' gJ (I a3 a4) (I gK (I gL (I fK fZ))) (lv (fun hq=>fun hq=>o4 fun K hK=> ?_) tt)
 (refine aB [1008,9032] (Tm 1 0 0) ?_)
 (revert K;refine bK ?_;refine' gJ (I a3 a4) (I gK (I gL (I fK fZ))) (l3 fun hq=> ?_))
 refine bU 3 ?_
 refine' gJ (I a3 a4) (I gK (I gL (I fK fZ))) (l4 fun K hK=> ?_)
 (refine d9 [9032] (zV [[int 1,int 0,int 0]] false) ?_)
 (revert K;refine bK ?_;refine' gJ (I a3 a4) (I gK (I gL (I fK fZ))) (lv (fun hq=>o4 fun K hK=> ?_) tt))
 (refine aB [1008,9032] (Tn 1 0 0) ?_)
 (revert K;refine bK ?_;refine' gJ (I a3 a4) (I gK (I gL (I fK fZ))) (lv (fun hq=>o4 fun K hK=> ?_) (lv (fun hq=>o4 fun K hK=> ?_) tt)))
 ·(refine d9 [9032] (zV [] false) ?_)
  (revert K;refine bK ?_;refine' gJ (I a3 a4) (I gK (I gL (I fK fZ))) (l3 fun hq=> ?_))
  simp[go_sem,aH]
 all_goals simp[maxLen]
end
structure St where
 on:Bool
 rk:Int
 rv:Int
 ra:Int
 rz:Int
 covers:List Cover
deriving DecidableEq
structure Sl where
 from_:Int
 to_:Int
 st:St
 yearly:Int
deriving DecidableEq
@[go_sem] def Sl.flat (s:Sl):List AV:=[int s.from_,int s.to_,bool s.st.on,int s.st.rk,int s.st.rv,int s.st.ra,int s.st.rz,dz s.st.covers,int s.yearly]
abbrev cK (l:List Sl):AV:= .sl false 9 (l.map Sl.flat)
theorem Sl.data (s:Sl):s.flat.all AV.isData=true:=by simp[Sl.flat]
def jk (s:St) (c:Change):St:=
 if c.kind=1 then⟨s.on,c.rk,c.rv,c.ra,c.rz,s.covers⟩ else if c.kind=2 then⟨s.on,s.rk,s.rv,s.ra,s.rz,c.covers⟩
 else if c.kind=3 then⟨false,s.rk,s.rv,s.ra,s.rz,s.covers⟩ else if c.kind=4 then⟨true,s.rk,s.rv,s.ra,s.rz,s.covers⟩ else s
def rT (t:Terms):St:=⟨true,t.kind,t.value,t.age,t.zone,t.covers⟩
def jP (s:St) (L:List Change) (d:Int):St:=(L.filter fun c=>decide (c.day≤d)).foldl jk s
theorem Tq {s:St} {L:List Change} {p d:Int} (hpd:p≤d) (h:∀c,c∈L→¬(p<c.day∧c.day≤d)):jP s L d=jP s L p:=by
 have e:(L.filter fun c=>decide (c.day≤d))=L.filter fun c=>decide (c.day≤p):=by
  refine List.filter_congr fun c hc=> ?_
  have:=h c hc
  rw[decide_eq_decide]
  omega
 rw[jP,e,jP]
def ib (f:Int→St):Int→Int→List Sl→Prop
 |a,b,[]=>a=b
 |a,b,s::L=>s.from_=a∧a<s.to_∧s.yearly=0∧(∀d,a≤d→d<s.to_→f d=s.st)∧ib f s.to_ b L∧(L≠ []→f s.to_≠s.st)
theorem rU {f:Int→St}:∀ {L:List Sl} {a b:Int},ib f a b L→a≤b
 | [],_,_,h=>Int.le_of_eq h
 |s::L,_,_,h=>by have:=rU h.2.2.2.2.1;have:=h.2.1;omega
theorem JA {f:Int→St}:∀ {L M:List Sl} {a b:Int},ib f a b L→ib f a b M→L=M
 | [],[],_,_,_,_=>rfl
 | [],s::M,a,b,h,h2=>by
   have e:a=b:=h
   have:=rU h2.2.2.2.2.1
   have:=h2.2.1
   omega
 |s::L,[],a,b,h2,h=>by
  have e:a=b:=h
  have:=rU h2.2.2.2.2.1
  have:=h2.2.1
  omega
 |s::L,u::M,a,b,h,h2=>by
  obtain⟨h1,h3,h4,h5,h6,h7⟩:=h
  obtain⟨g1,g3,g4,g5,g6,g7⟩:=h2
  have e1:s.st=u.st:=by rw[←h5 a (Int.le_refl _) h3,←g5 a (Int.le_refl _) g3]
  have hle:=rU h6
  have gle:=rU g6
  have e2:s.to_=u.to_:=by
   rcases Int.lt_trichotomy s.to_ u.to_ with hq|hq|hq
   ·have hn:L≠ []:=by rintro rfl;have:s.to_=b:=h6;omega
    exact absurd ((g5 s.to_ byOmega hq).trans e1.symm) (h7 hn)
   ·exact hq
   ·have hn:M≠ []:=by rintro rfl;have:u.to_=b:=g6;omega
    exact absurd ((h5 u.to_ byOmega hq).trans e1) (g7 hn)
  have e3:s=u:=by
   obtain⟨s1,s2,s3,s4⟩:=s
   obtain⟨u1,u2,u3,u4⟩:=u
   simp only at h1 g1 h4 g4 e1 e2
   subst h1 g1 h4 g4 e1 e2
   rfl
  subst e3
  rw[JA h6 g6]
def bN (s:Sl) (d:Int):Sl:=⟨s.from_,d,s.st,s.yearly⟩
def mX (out:List Sl) (from_:Int) (st:St) (d:Int):List Sl:=
 if from_=d then out else match out.getLast? with
  |some q=>if q.st=st then out.dropLast++[bN q d] else out++[⟨from_,d,st,0⟩]
  |none=>out++[⟨from_,d,st,0⟩]
theorem Ee {from_:Int} {st:St} {d:Int} (h:from_≠d):mX [] from_ st d=[⟨from_,d,st,0⟩]:=by rw[mX,if_neg h];rfl
theorem Ef {out:List Sl} {q:Sl} {from_:Int} {st:St} {d:Int} (h:from_≠d):mX (out++[q]) from_ st d=if q.st=st then out++[bN q d] else out++[q]++[⟨from_,d,st,0⟩]:=by
 rw[mX,if_neg h,List.getLast?_append]
 simp
theorem Eg {α:Type} (l:List α):l=[]∨∃m x,l=m++[x]:=by
 rcases List.eq_nil_or_concat l with h|⟨m,x,h⟩
 ·exact .inl h
 ·exact .inr ⟨m,x,by rw[h,List.concat_eq_append]⟩
theorem xH {f:Int→St} {m b:Int} {st:St} (hmb:m<b) (hst:∀d,m≤d→d<b→f d=st):∀ {L:List Sl} {a:Int},ib f a m L→(∀q,L.getLast?=some q→q.st≠st)→ib f a b (L++[⟨m,b,st,0⟩])
 | [],a,h,_=>by
   have e:a=m:=h
   subst e
   exact⟨rfl,hmb,rfl,hst,rfl,fun h=>absurd rfl h⟩
 |s::L,a,h,hq=>by
  obtain⟨h1,h3,h4,h5,h6,h7⟩:=h
  refine⟨h1,h3,h4,h5,xH hmb hst h6 fun q hL=>hq q ?_,fun _=> ?_⟩
  ·rcases L with _|⟨u,L⟩
   ·simp at hL
   ·rw[List.getLast?_cons_cons];exact hL
  ·rcases L with _|⟨u,L⟩
   ·have e:s.to_=m:=h6
    rw[e,hst m (Int.le_refl _) hmb]
    exact(hq s rfl).symm
   ·exact h7 ai
theorem JB {f:Int→St} {m b:Int} {q:Sl} (hmb:m<b) (hst:∀d,m≤d→d<b→f d=q.st):∀ {L:List Sl} {a:Int},ib f a m (L++[q])→ib f a b (L++[bN q b])
 | [],a,h=>by
   obtain⟨h1,h3,h4,h5,h6,-⟩:=h
   have e:q.to_=m:=h6
   refine⟨h1,by show a<b;omega,h4,fun d hd1 hd2=> ?_,rfl,fun h=>absurd rfl h⟩
   by_cases hd:d<m
   ·exact h5 d hd1 byOmega
   ·exact hst d byOmega hd2
 |s::L,a,h=>by
  obtain⟨h1,h3,h4,h5,h6,h7⟩:=h
  exact⟨h1,h3,h4,h5,JB hmb hst h6,fun _=>h7 ai⟩
theorem JC {f:Int→St} {m b:Int} {st:St} (hmb:m≤b) (hst:∀d,m≤d→d<b→f d=st) {L:List Sl} {a:Int} (h:ib f a m L):ib f a b (mX L m st b):=by
 by_cases e:m=b
 ·rw[mX,if_pos e];subst e;exact h
 ·rcases Eg L with rfl|⟨M,q,rfl⟩
  ·rw[Ee e]
   exact xH (L:=[]) byOmega hst h ai
  ·rw[Ef e]
   split
   ·rename_i hq
    exact JB byOmega (by rw[hq];exact hst) h
   ·rename_i hq
    exact xH byOmega hst h (by intro u hu;rw[List.getLast?_append] at hu;simp at hu;subst hu;exact hq)
def mY (out:List Sl) (from_:Int) (st:St):List Change→Int→List Sl
 | [],t=>mX out from_ st t
 |c::l,t=>mY (mX out from_ st c.day) c.day (jk st c) l t
theorem Eh {s:St} {a t:Int}:∀ {l P:List Change} {out:List Sl} {from_:Int},(P++l).Pairwise (fun c d=>c.day≤d.day)→(∀c,c∈P→c.day≤from_)→(∀c,c∈l→from_≤c.day∧c.day≤t)→from_≤t→
 ib (jP s (P++l)) a from_ out→ib (jP s (P++l)) a t (mY out from_ (P.foldl jk s) l t)
 | [],P,out,from_,hs,hP,hl,hft,h=>by
   refine JC hft (fun d hd _=> ?_) h
   rw[jP,List.append_nil,List.filter_eq_self.2 fun c hc=>by have:=hP c hc;simp;omega]
 |c::l,P,out,from_,hs,hP,hl,hft,h=>by
  have hc:=hl c ai
  have e:P++c::l=(P++[c])++l:=by simp
  have e2:(P++[c]).foldl jk s=jk (P.foldl jk s) c:=by simp
  have hcl:∀x,x∈l→c.day≤x.day:=(List.pairwise_cons.1 (List.pairwise_append.1 hs).2.1).1
  rw[mY,←e2,e]
  rw[e] at hs
  refine Eh hs (fun x hx=> ?_) (fun x hx=>⟨hcl x hx,(hl x (by simp[hx])).2⟩) hc.2 ?_
  ·rcases List.mem_append.1 hx with hx|hx
   ·have:=hP x hx;omega
   ·simp at hx;subst hx;exact Int.le_refl _
  ·rw[←e]
   refine JC hc.1 (fun d hd hd2=> ?_) h
   have e3:(P++c::l).filter (fun c=>decide (c.day≤d))=P:=by
    rw[List.filter_append,List.filter_eq_self.2 fun x hx=>by have:=hP x hx;simp;omega,List.filter_eq_nil_iff.2,List.append_nil]
    intro x hx
    rcases List.mem_cons.1 hx with rfl|hx
    ·simp;omega
    ·have:=hcl x hx;simp;omega
   rw[jP,e3]
def oD (f:Int→St) (out:List Sl) (from_:Int) (now:St):List Int→Int→List Sl
 | [],t=>out++[⟨from_,t,now,0⟩]
 |d::l,t=>if now=f d then oD f out from_ now l t else oD f (out++[⟨from_,d,now,0⟩]) d (f d) l t
theorem Ei {f:Int→St} {a t:Int}:∀ {l:List Int} {out:List Sl} {from_ p:Int},from_≤p→p<t→l.Pairwise (·≤ ·)→(∀x,x∈l→p≤x∧x<t)→(∀x y,p≤x→x≤y→(∀z,z∈l→¬(x<z∧z≤y))→f y=f x)→
 (∀d,from_≤d→d≤p→f d=f p)→(∀q,out.getLast?=some q→q.st≠f p)→ib f a from_ out→ib f a t (oD f out from_ (f p) l t)
 | [],out,from_,p,h1,h2,hs,hl,hc,hf,hq,h=>by
   refine xH byOmega (fun d hd hd2=> ?_) h hq
   by_cases hdp:d≤p
   ·exact hf d hd hdp
   ·exact hc p d (Int.le_refl _) byOmega ai
 |d::l,out,from_,p,h1,h2,hs,hl,hc,hf,hq,h=>by
  have hd:=hl d ai
  have hdl:=(List.pairwise_cons.1 hs).1
  have hmid:∀x,p≤x→x<d→f x=f p:=fun x hx hx2=>hc p x (Int.le_refl _) hx fun z hz=>by
   rcases List.mem_cons.1 hz with rfl|hz
   ·omega
   ·have:=hdl z hz;omega
  have hc':∀x y,d≤x→x≤y→(∀z,z∈l→¬(x<z∧z≤y))→f y=f x:=fun x y hx hxy hz=>hc x y byOmega hxy fun z hz2=>by
   rcases List.mem_cons.1 hz2 with rfl|hz2
   ·omega
   ·exact hz z hz2
  have hl':∀x,x∈l→d≤x∧x<t:=fun x hx=>⟨hdl x hx,(hl x (by simp[hx])).2⟩
  rw[oD]
  split
  ·rename_i e
   rw[e]
   refine Ei byOmega hd.2 (List.pairwise_cons.1 hs).2 hl' hc' (fun x hx hx2=> ?_) (by rw[←e];exact hq) h
   by_cases hxp:x≤p
   ·rw[hf x hx hxp,e]
   ·by_cases hxd:x<d
    ·rw[hmid x byOmega hxd,e]
    ·rw[show x=d by omega]
  ·rename_i e
   have hpd:p≠d:=by rintro rfl;exact e rfl
   refine Ei (Int.le_refl _) hd.2 (List.pairwise_cons.1 hs).2 hl' hc' (fun x hx hx2=>by rw[show x=d by omega]) (fun q hq2=> ?_) ?_
   ·rw[List.getLast?_append] at hq2;simp at hq2;subst hq2;exact e
   ·refine xH byOmega (fun x hx hx2=> ?_) h hq
    by_cases hxp:x≤p
    ·exact hf x hx hxp
    ·exact hmid x byOmega hx2
theorem Tt {s:St} {a t:Int} {L:List Change} (hat:a<t) (hs:L.Pairwise fun c d=>c.day≤d.day) (hl:∀c,c∈L→a≤c.day∧c.day<t):
 mY [] a s L t=oD (jP s L) [] a (jP s L a) (L.map Change.day) t:=by
 have h1:=Eh (s:=s) (a:=a) (t:=t) (l:=L) (P:=[]) (out:=[]) (from_:=a) hs ai (fun c hc=>⟨(hl c hc).1,Int.le_of_lt (hl c hc).2⟩) (Int.le_of_lt hat) rfl
 have h2:=Ei (f:=jP s L) (a:=a) (t:=t) (l:=L.map Change.day) (out:=[]) (from_:=a) (p:=a) (Int.le_refl _) hat (List.pairwise_map.2 hs) (fun x hx=>by
  obtain⟨c,hc,rfl⟩:=List.mem_map.1 hx;exact hl c hc) (fun x y hx hxy hz=>Tq hxy fun c hc=>hz c.day (List.mem_map.2 ⟨c,hc,rfl⟩)) (fun d hd hd2=>by rw[show d=a by omega]) ai rfl
 exact JA h1 h2
theorem Tu {s:St} {a t:Int} {L:List Change} (hat:a<t) (hs:L.Pairwise fun c d=>c.day≤d.day) (hl:∀c,c∈L→a≤c.day∧c.day<t):ib (jP s L) a t (mY [] a s L t):=
 Eh (s:=s) (a:=a) (t:=t) (l:=L) (P:=[]) (out:=[]) (from_:=a) hs ai (fun c hc=>⟨(hl c hc).1,Int.le_of_lt (hl c hc).2⟩) (Int.le_of_lt hat) rfl
theorem JD (a:Int):Fun Tryz.prog 158 [int a] (bool false):=by
 refine af Tryz.func158 fun cx hN hR hF hL=> ?_
 exact run tt tt
theorem JE (a b:Int):Fun Tryz.prog 131 [int a,int b] (bool (decide (a<b))):=by
 refine af Tryz.func131 fun cx hN hR hF hL=> ?_
 refine' run tt (l4 fun K hK=> ?_)
 (refine bR P6 (JD _) ai ?_)
 (revert K;refine bK ?_;exact run tt tt)
def p9 (a b:Int):Bool:=decide (1≤a)&&decide (a≤b)&&decide (b≤292195)
theorem Ej (a b:Int):Fun Tryz.prog 117 [.agg [int a,int b]] (bool (p9 a b)):=by
 refine af Tryz.func117 fun cx hN hR hF hL=> ?_
 refine' run tt (l1 ?_)
 rfl
def mZ (a b:Int):Int:=if p9 a b&& !decide (a=b) then a else 0
def ng (a b:Int):Int:=if p9 a b&& !decide (a=b) then b else 0
theorem JF (a b:Int):Fun Tryz.prog 64 [.agg [int a,int b]] (.agg [int (mZ a b),int (ng a b)]):=by
 refine af Tryz.func64 fun cx hN hR hF hL=> ?_
 refine' run tt (l4 fun K hK=> ?_)
 (refine bR H6 (Ej _ _) ai ?_)
 (revert K;refine bK ?_;refine' run tt (lv (fun hq=>lf ?_) (l3 fun hq=> ?_)))
 ·simp[mZ,ng] at hq ⊢;grind
 ·simp[mZ,ng] at hq ⊢;grind
theorem Tv (a b:Int):0≤mZ a b∧mZ a b≤ng a b∧ng a b≤292195:=by
 unfold mZ ng
 split
 ·rename_i h
  simp[p9] at h
  omega
 ·omega
def jQ (a b:Int):Int:=ng a b-mZ a b
theorem ni (a b:Int):Fun Tryz.prog 134 [.agg [int a,int b]] (int (jQ a b)):=by
 refine af Tryz.func134 fun cx hN hR hF hL=> ?_
 refine' run tt (l4 fun K hK=> ?_)
 (refine bR HZ (JF _ _) ai ?_)
 (revert K;refine bK ?_;refine' run tt (l1 ?_))
 have:=Tv a b
 rw[fq byOmega byOmega]
 rfl
def fM (a b d:Int):Bool:=decide (mZ a b≤d)&&decide (d<ng a b)
theorem rV (a b d:Int):Fun Tryz.prog 25 [.agg [int a,int b],int d] (bool (fM a b d)):=by
 refine af Tryz.func25 fun cx hN hR hF hL=> ?_
 refine' run tt (l4 fun K hK=> ?_)
 (refine bR HZ (JF _ _) ai ?_)
 (revert K;refine bK ?_;refine' run tt (l1 ?_))
 rfl
def rises:List Int→Bool
 |a::b::l=>decide (a≤b)&&rises (b::l)
 |_=>true
theorem El {l:List Int} {i:Nat} (h:i+1<l.length):rises (l.drop i)=(decide (l[i]≤l[i+1])&&rises (l.drop (i+1))):=by
 rw[List.drop_eq_getElem_cons (show i<l.length by omega),List.drop_eq_getElem_cons h]
 simp[rises]
theorem JG {l:List Int}:∀(i:Nat),rises l=true→rises (l.drop i)=true
 |0,h=>h
 |i+1,h=>by
  have:=JG i h
  by_cases hi:i+1<l.length
  ·rw[El hi,Bool.and_eq_true] at this;exact this.2
  ·rw[List.drop_eq_nil_of_le byOmega];rfl
theorem JH (l:List Int):Fun Tryz.prog 86 [ints l] (bool (rises l)):=by
 refine af Tryz.func86 fun cx hN hR hF hL=> ?_
 simp at hL
 have hl:=hL.1
 simp[maxLen] at hl
 refine' run tt (l1 ?_)
 refine aX (σ:={i:Nat // i≤l.length∧rises (l.drop (i-1))=true}) (fun s=>⟨[(3,int ((s.1:Int)-1)),(2,bool false),(0,ints l)],[],2000⟩) (fun s=>s.1) id ⟨l.length,by omega,?_⟩ ?_ ?_
 ·by_cases h:l=[]
  ·subst h;rfl
  ·have h1:l.length-1+1=l.length:=by have:=List.length_pos_iff.2 h;omega
   rw[List.drop_eq_getElem_cons byOmega,List.drop_eq_nil_of_le byOmega]
   rfl
 ·have hw:IntKind.i64.wrap ((l.length:Int)-1)=l.length-1:=fq byOmega byOmega
  simp only[go_sem,↓reduceIte,hF,hw]
 ·rintro⟨i,h1,h2⟩
  rcases i with _|_|i
  ·refine' run tt (l3 fun hq=> ?_)
   exact h2.symm
  ·refine' run tt (l3 fun hq=> ?_)
   exact h2.symm
  ·have ez:((i+1+1:Nat):Int)-1=((i+1:Nat):Int):=byOmega
   have ew:IntKind.i64.wrap (((i+1:Nat):Int)-1)=(i:Int):=wE
   have e1:l[i+1]? =some l[i+1]:=List.getElem?_eq_getElem byOmega
   have e2:l[i]? =some l[i]:=List.getElem?_eq_getElem byOmega
   refine' run (I ez (I ew (I e1 e2))) (lv (fun hq=>o4 fun K hK=> ?_) tt)
   (refine bR PZ (JE _ _) ai ?_)
   (revert K;refine bK ?_;refine' run (I ez (I ew (I e1 e2))) (lv (fun hq=>lf ?_) (l3 fun hq=> ?_)))
   ·cases hr:rises l with
    |false=>rfl
    |true=>
     have h3:=JG i hr
     rw[El (show i+1<l.length by omega)] at h3
     simp at h3
     omega
   ·refine⟨⟨i+1,by omega,?_⟩,id,?_,Nat.lt_succ_self _⟩
    ·have h3:=El (show i+1<l.length by omega)
     simp at h2 h3 ⊢
     rw[h3,h2]
     simp[hq]
    ·have ev:((i+1:Nat):Int)-1=(i:Int):=byOmega
     simp only[go_sem,↓reduceIte,hF,ev]
end Go.Proofs.YtlikpcpllahalaaGreat.V
