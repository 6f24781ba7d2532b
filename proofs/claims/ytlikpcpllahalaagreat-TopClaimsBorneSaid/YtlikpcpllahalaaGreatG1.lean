/- Parts of the proof. -/
import Derived.Test.YtlikpcpllahalaaGreatRows
import Derived.WalkKit
import Derived.WalkSpells
import Derived.WalkLawsBesides
import Derived.Deep.QuietTactic
import Derived.BigQuiet
import Derived.Lib.Hide
import Derived.Sort.LoopGhostIn
import Derived.OrdersIn
import Derived.TacticsIn
import Derived.RangeFuncLeaves
import Derived.RangeFuncFrom
set_option linter.unusedSimpArgs false
set_option linter.unusedVariables false
namespace Go.Proofs.YtlikpcpllahalaaGreat.V
open Go.RowKit
set_option maxRecDepth 100000
section
theorem aA {p:Prop} (h:p:=by kernel_rfl):p:=h
theorem byOmega {p:Prop} (h:p:=by omega):p:=h
theorem ai {p:Prop} (h:p:=by simp):p:=h
inductive AV where
 |v (x:Value)
 |sl (full:Bool) (k:Nat) (l:List (List AV))
 |any
 |ptr (b off:Nat)
 |pp (l:List AV)
 |osl (b k off n:Nat)
 |fn (f:Fn) (first caps:List AV)
 |agg (l:List AV)
 |tup (l:List AV)
 |iface (t:TypeId) (x:AV)
 |iff (c:Bool) (x:AV)
 |bit (p:Prop)
 |mp (es:Array MapEntry) (c:Nat)
abbrev int (n:Int):AV:= .v (.int .i64 n)
abbrev bool (b:Bool):AV:= .v (.bool b)
inductive RepD (M:Nat→Prop) (w:World):Value→AV→Prop
 |v (x:Value):RepD M w x (.v x)
 |sl {A:Option Addr} {n cap:Nat} {full:Bool} {k:Nat} {l:List (List AV)} (b off:Nat) (x:Nat→Nat→Value) (hn:n=l.length) (hc:n≤cap) (hm:cap≤maxLen) (hf:full=true→cap=n)
   (hk:∀row,row∈l→row.length=k) (hA:l≠ []→A=some ⟨b,off,none⟩∧¬M b∧b<w.heap.size)
   (hl:∀i j,i<l.length→j<k→w.cell? ⟨b,off+i*k+j,none⟩=some (x i j)∧(x i j).oneCell'=true)
   (hx:∀(i:Nat) (row:List AV) (j:Nat) (y:AV),l[i]? =some row→row[j]? =some y→RepD M w (x i j) y):RepD M w (.slice A n cap) (.sl full k l)
 |agg {vs:Array Value} {l:List AV} (hn:vs.size=l.length) (h:∀(i:Nat) (x:Value) (y:AV),vs[i]? =some x→l[i]? =some y→RepD M w x y):RepD M w (.agg vs) (.agg l)
 |tup {vs:Array Value} {l:List AV} (hn:vs.size=l.length) (h:∀(i:Nat) (x:Value) (y:AV),vs[i]? =some x→l[i]? =some y→RepD M w x y):RepD M w (.tuple vs) (.tup l)
 |pp {g off:Nat} {l:List AV} (x:Nat→Value) (hM:¬M g) (hg:g<w.heap.size) (hl:∀j,j<l.length→w.cell? ⟨g,off+j,none⟩=some (x j)∧(x j).oneCell'=true)
   (hx:∀(j:Nat) (y:AV),l[j]? =some y→RepD M w (x j) y):RepD M w (.pointer (some ⟨g,off,none⟩)) (.pp l)
 |fn {f:Fn} {fs cs:Array Value} {lf lc:List AV} (hf:fs.size=lf.length) (hc:cs.size=lc.length) (h1:∀(i:Nat) (x:Value) (y:AV),fs[i]? =some x→lf[i]? =some y→RepD M w x y)
   (h2:∀(i:Nat) (x:Value) (y:AV),cs[i]? =some x→lc[i]? =some y→RepD M w x y):RepD M w (.func f fs cs) (.fn f lf lc)
 |mp {r c:Nat} {es:Array MapEntry} (hM:¬M r) (hr:w.heap[r]? =some (.map es c)):RepD M w (.map (some r)) (.mp es c)
inductive RepA (ι:Nat→Option Nat) (M:Nat→Prop) (w:World):Value→AV→Prop
 |d {v:Value} {a:AV} (h:RepD M w v a):RepA ι M w v a
 |any (v:Value):RepA ι M w v .any
 |ptr {b g off:Nat} (h:ι b=some g):RepA ι M w (.pointer (some ⟨g,off,none⟩)) (.ptr b off)
 |osl {b g k off n cap:Nat} {c:Array Value} {t:TypeId} (h:ι b=some g) (hn:n≤cap) (hm:cap≤maxLen) (hh:w.heap[g]? =some (.cells c t (0,0))) (hs:off+cap*k=c.size):
   RepA ι M w (.slice (some ⟨g,off,none⟩) n cap) (.osl b k off n)
 |osl0 (A:Option Addr) (b k off:Nat):RepA ι M w (.slice A 0 0) (.osl b k off 0)
 |fn {f:Fn} {fs cs:Array Value} {lf lc:List AV} (hf:fs.size=lf.length) (hc:cs.size=lc.length) (h1:∀(i:Nat) (x:Value) (y:AV),fs[i]? =some x→lf[i]? =some y→RepA ι M w x y)
   (h2:∀(i:Nat) (x:Value) (y:AV),cs[i]? =some x→lc[i]? =some y→RepA ι M w x y):RepA ι M w (.func f fs cs) (.fn f lf lc)
 |agg {vs:Array Value} {l:List AV} (hn:vs.size=l.length) (h:∀(i:Nat) (x:Value) (y:AV),vs[i]? =some x→l[i]? =some y→RepA ι M w x y):RepA ι M w (.agg vs) (.agg l)
 |tup {vs:Array Value} {l:List AV} (hn:vs.size=l.length) (h:∀(i:Nat) (x:Value) (y:AV),vs[i]? =some x→l[i]? =some y→RepA ι M w x y):RepA ι M w (.tuple vs) (.tup l)
 |iface {t:TypeId} {v:Value} {a:AV} (h:RepA ι M w v a):RepA ι M w (.iface t v) (.iface t a)
 |iffT {v:Value} {a:AV} (h:RepA ι M w v a):RepA ι M w v (.iff true a)
 |iffF (a:AV):RepA ι M w undef (.iff false a)
 |bit {b:Bool} {p:Prop} (h:b=true→p):RepA ι M w (.bool b) (.bit p)
structure Evo (w w':World):Prop where
 size:w.heap.size≤w'.heap.size
 cells:∀(g:Nat) (c:Array Value) (t:TypeId),w.heap[g]? =some (Obj.cells c t (0,0))→∃c':Array Value,w'.heap[g]? =some (.cells c' t (0,0))∧c'.size=c.size
theorem Evo.refl (w:World):Evo w w:=⟨Nat.le_refl _,fun _ c _ h=>⟨c,h,rfl⟩⟩
theorem Evo.trans {a b c:World} (h:Evo a b) (k:Evo b c):Evo a c:=
 ⟨Nat.le_trans h.size k.size,fun g x t hx=>by
   obtain⟨y,hy,hs⟩:=h.cells g x t hx
   obtain⟨z,hz,hs'⟩:=k.cells g y t hy
   exact⟨z,hz,hs'.trans hs⟩⟩
section
variable {M M':Nat→Prop} {w w':World} {ι ι':Nat→Option Nat}
theorem RepD.keep (hM:∀g,g<w.heap.size→M' g→M g) (hs:w.heap.size≤w'.heap.size) (hb:∀g,g<w.heap.size→¬M g→w'.heap[g]? =w.heap[g]?) {v:Value} {a:AV} (h:RepD M w v a):RepD M' w' v a:=by
 induction h with
 |v x=>exact .v x
 | @sl A n cap full k l b off x hn hc hm hf hk hA hl hx ih=>
   refine .sl b off x hn hc hm hf hk (fun h=> ?_) (fun i j hi hj=> ?_) ih
   ·obtain⟨h1,h2,h3⟩:=hA h
    exact⟨h1,fun h=>h2 (hM _ h3 h),Nat.lt_of_lt_of_le h3 hs⟩
   ·obtain⟨h1,h2,h3⟩:=hA (by rintro rfl;simp at hi)
    rw[World.cell?_of_block (w:=w) (hb b h3 h2)]
    exact hl i j hi hj
 |agg hn _ ih=>exact .agg hn ih
 |tup hn _ ih=>exact .tup hn ih
 | @pp g off l x hM' hg hl hx ih=>
   refine .pp x (fun h=>hM' (hM _ hg h)) (Nat.lt_of_lt_of_le hg hs) (fun j hj=> ?_) ih
   rw[World.cell?_of_block (w:=w) (hb g hg hM')]
   exact hl j hj
 |fn hf hc _ _ ih1 ih2=>exact .fn hf hc ih1 ih2
 | @mp r c es hM' hr=>
   have hlt:=(Array.getElem?_eq_some_iff.1 hr).1
   exact .mp (fun h=>hM' (hM _ hlt h)) (by rw[hb r hlt hM'];exact hr)
theorem RepA.keep (hι:∀b g,ι b=some g→ι' b=some g) (hM:∀g,g<w.heap.size→M' g→M g) (he:Evo w w') (hb:∀g,g<w.heap.size→¬M g→w'.heap[g]? =w.heap[g]?) {v:Value} {a:AV} (h:RepA ι M w v a):RepA ι' M' w' v a:=by
 induction h with
 |d h=>exact .d (h.keep hM he.size hb)
 |any v=>exact .any v
 |ptr h=>exact .ptr (hι _ _ h)
 |osl h hn hm hh hs=>
  obtain⟨c',hc',hs'⟩:=he.cells _ _ _ hh
  exact .osl (hι _ _ h) hn hm hc' (hs.trans hs'.symm)
 |osl0 A b k o=>exact .osl0 A b k o
 |fn hf hc _ _ ih1 ih2=>exact .fn hf hc ih1 ih2
 |agg hn _ ih=>exact .agg hn ih
 |tup hn _ ih=>exact .tup hn ih
 |iface _ ih=>exact .iface ih
 |iffT _ ih=>exact .iffT ih
 |iffF a=>exact .iffF a
 |bit h=>exact .bit h
def AV.isData:AV→Bool
 | .v _=>true
 | .sl .. =>true
 | .agg l=>l.attach.all fun⟨x,_⟩=>x.isData
 | .tup l=>l.attach.all fun⟨x,_⟩=>x.isData
 | .pp _=>true
 | .mp .. =>true
 | .fn _ l m=>(l.attach.all fun⟨x,_⟩=>x.isData)&&m.attach.all fun⟨x,_⟩=>x.isData
 |_=>false
@[simp] theorem NI (x:Value):(AV.v x).isData=true:=by simp[AV.isData]
@[simp] theorem F7 (f:Bool) (k:Nat) (l:List (List AV)):(AV.sl f k l).isData=true:=by simp[AV.isData]
@[simp] theorem yG (l:List AV):(AV.agg l).isData=l.all AV.isData:=by
 rw[AV.isData];simp[List.all_eq,List.attach]
@[simp] theorem yH (l:List AV):(AV.tup l).isData=l.all AV.isData:=by
 rw[AV.isData];simp[List.all_eq,List.attach]
@[simp] theorem abA (es:Array MapEntry) (c:Nat):(AV.mp es c).isData=true:=by simp[AV.isData]
@[simp] theorem NJ (l:List AV):(AV.pp l).isData=true:=by simp[AV.isData]
@[simp] theorem yI (f:Fn) (l m:List AV):(AV.fn f l m).isData=(l.all AV.isData&&m.all AV.isData):=by
 rw[AV.isData];simp[List.all_eq,List.attach]
theorem RepA.toD {v:Value} {a:AV} (h:RepA ι M w v a) (ha:a.isData=true):RepD M w v a:=by
 induction h with
 |d h=>exact h
 |agg hn _ ih=>
  rw[yG,List.all_eq_true] at ha
  exact .agg hn fun i x y hx hy=>ih i x y hx hy (ha _ (List.mem_of_getElem? hy))
 |tup hn _ ih=>
  rw[yH,List.all_eq_true] at ha
  exact .tup hn fun i x y hx hy=>ih i x y hx hy (ha _ (List.mem_of_getElem? hy))
 |fn hf hc _ _ ih1 ih2=>
  rw[yI,Bool.and_eq_true,List.all_eq_true,List.all_eq_true] at ha
  exact .fn hf hc (fun i x y hx hy=>ih1 i x y hx hy (ha.1 _ (List.mem_of_getElem? hy))) (fun i x y hx hy=>ih2 i x y hx hy (ha.2 _ (List.mem_of_getElem? hy)))
 |_=>simp[AV.isData] at ha
def AV.ren (r:Nat→Nat):AV→AV
 | .ptr b o=> .ptr (r b) o
 | .osl b k o n=> .osl (r b) k o n
 | .fn f lf lc=> .fn f (lf.attach.map fun⟨x,_⟩=>x.ren r) (lc.attach.map fun⟨x,_⟩=>x.ren r)
 | .agg l=> .agg (l.attach.map fun⟨x,_⟩=>x.ren r)
 | .tup l=> .tup (l.attach.map fun⟨x,_⟩=>x.ren r)
 | .iface t x=> .iface t (x.ren r)
 | .iff c x=> .iff c (x.ren r)
 |x=>x
def AV.names (f:Nat→Bool):AV→Bool
 | .ptr b _=>f b
 | .osl b .. =>f b
 | .fn _ lf lc=>(lf.attach.all fun⟨x,_⟩=>x.names f)&&(lc.attach.all fun⟨x,_⟩=>x.names f)
 | .agg l=>l.attach.all fun⟨x,_⟩=>x.names f
 | .tup l=>l.attach.all fun⟨x,_⟩=>x.names f
 | .iface _ x=>x.names f
 | .iff _ x=>x.names f
 |_=>true
section
variable {r:Nat→Nat} {p:Nat→Bool}
@[simp] theorem F8 (x:Value):(AV.v x).ren r= .v x:=by simp[AV.ren]
@[simp] theorem NK (es:Array MapEntry) (c:Nat):(AV.mp es c).ren r= .mp es c:=by simp[AV.ren]
@[simp] theorem NL (es:Array MapEntry) (c:Nat):(AV.mp es c).names p=true:=by simp[AV.names]
@[simp] theorem NM (p:Prop):(AV.bit p).ren r= .bit p:=by simp[AV.ren]
@[simp] theorem abB (q:Prop):(AV.bit q).names p=true:=by simp[AV.names]
@[simp] theorem F9:AV.any.ren r= .any:=by simp[AV.ren]
@[simp] theorem pF (f:Bool) (k:Nat) (l:List (List AV)):(AV.sl f k l).ren r= .sl f k l:=by simp[AV.ren]
@[simp] theorem Ga (l:List AV):(AV.pp l).ren r= .pp l:=by simp[AV.ren]
@[simp] theorem Gb (b o:Nat):(AV.ptr b o).ren r= .ptr (r b) o:=by simp[AV.ren]
@[simp] theorem Cs (b k o m:Nat):(AV.osl b k o m).ren r= .osl (r b) k o m:=by simp[AV.ren]
@[simp] theorem vU (l:List AV):(AV.agg l).ren r= .agg (l.map (AV.ren r)):=by rw[AV.ren];simp
@[simp] theorem vV (l:List AV):(AV.tup l).ren r= .tup (l.map (AV.ren r)):=by rw[AV.ren];simp
@[simp] theorem vW (f:Fn) (l m:List AV):(AV.fn f l m).ren r= .fn f (l.map (AV.ren r)) (m.map (AV.ren r)):=by rw[AV.ren];simp
@[simp] theorem Ct (t:TypeId) (x:AV):(AV.iface t x).ren r= .iface t (x.ren r):=by simp[AV.ren]
@[simp] theorem yJ (c:Bool) (x:AV):(AV.iff c x).ren r= .iff c (x.ren r):=by simp[AV.ren]
@[simp] theorem yK (c:Bool) (x:AV):(AV.iff c x).names p=x.names p:=by simp[AV.names]
@[simp] theorem Gc (x:Value):(AV.v x).names p=true:=by simp[AV.names]
@[simp] theorem NN:AV.any.names p=true:=by simp[AV.names]
@[simp] theorem Gd (f:Bool) (k:Nat) (l:List (List AV)):(AV.sl f k l).names p=true:=by simp[AV.names]
@[simp] theorem Gf (l:List AV):(AV.pp l).names p=true:=by simp[AV.names]
@[simp] theorem Gg (b o:Nat):(AV.ptr b o).names p=p b:=by simp[AV.names]
@[simp] theorem Gh (b k o m:Nat):(AV.osl b k o m).names p=p b:=by simp[AV.names]
@[simp] theorem vX (l:List AV):(AV.agg l).names p=l.all (AV.names p):=by
 rw[AV.names];simp[List.all_eq,List.attach]
@[simp] theorem qU (l:List AV):(AV.tup l).names p=l.all (AV.names p):=by
 rw[AV.names];simp[List.all_eq,List.attach]
@[simp] theorem vY (f:Fn) (l m:List AV):(AV.fn f l m).names p=(l.all (AV.names p)&&m.all (AV.names p)):=by
 rw[AV.names];simp[List.all_eq,List.attach]
@[simp] theorem yL (t:TypeId) (x:AV):(AV.iface t x).names p=x.names p:=by simp[AV.names]
end
def eB (p:Nat→Bool) (r:Nat→Nat) (ι:Nat→Option Nat):Nat→Option Nat:=fun b=>if p b then ι (r b) else none
theorem yM {r:Nat→Nat} {vs:Array Value} {l l0:List AV} (hn:vs.size=l.length) (he:l=l0.map (AV.ren r)) (ih:∀(i:Nat) (x:Value) (y:AV),vs[i]? =some x→l[i]? =some y→∀ {a:AV},y=a.ren r→a=y):l0=l:=by
 apply List.ext_getElem?
 intro i
 by_cases hi:i<l.length
 ·have h1:=List.getElem?_eq_getElem hi
  have h2:l0[i]? =some (l0[i]'(by subst he;simpa using hi)):=List.getElem?_eq_getElem _
  have h3:l[i]=(l0[i]'(by subst he;simpa using hi)).ren r:=by subst he;simp
  rw[h1,h2]
  exact congrArg some (ih i _ _ (Array.getElem?_eq_getElem byOmega) h1 h3)
 ·have:l0.length=l.length:=by subst he;simp
  rw[List.getElem?_eq_none byOmega,List.getElem?_eq_none byOmega]
theorem RepD.ren_inv {r:Nat→Nat} {v:Value} {a':AV} (h:RepD M w v a'):∀ {a:AV},a'=a.ren r→a=a':=by
 induction h with
 |v x=>intro a he;cases a<;>simp at he;subst he;rfl
 |sl=>intro a he;cases a<;>simp at he;obtain⟨rfl,rfl,rfl⟩:=he;rfl
 |pp=>intro a he;cases a<;>simp at he;subst he;rfl
 |mp=>intro a he;cases a<;>simp at he;obtain⟨rfl,rfl⟩:=he;rfl
 |agg hn _ ih=>intro a he;cases a<;>simp at he;rw[yM hn he ih]
 |tup hn _ ih=>intro a he;cases a<;>simp at he;rw[yM hn he ih]
 |fn hf hc _ _ ih1 ih2=>intro a he;cases a<;>simp at he;obtain⟨rfl,h1,h2⟩:=he;rw[yM hf h1 ih1,yM hc h2 ih2]
theorem RepA.cut {p:Nat→Bool} {r:Nat→Nat}:∀ {v:Value} {a a':AV},RepA ι M w v a'→a'=a.ren r→a.names p=true→RepA (eB p r ι) M w v a:=by
 intro v a a' h
 induction h generalizing a with
 | @d v a' h=>intro he _;rw[h.ren_inv he];exact .d h
 |any v=>intro he ha;cases a<;>simp at he;exact .any v
 |ptr h=>intro he ha;cases a<;>simp at he;obtain⟨rfl,rfl⟩:=he;simp at ha;exact .ptr (by simp[eB,ha,h])
 |osl h h1 h2 h3 h4=>intro he ha;cases a<;>simp at he;obtain⟨rfl,rfl,rfl,rfl⟩:=he;simp at ha;exact .osl (by simp[eB,ha,h]) h1 h2 h3 h4
 |osl0 A b k o=>intro he ha;cases a<;>simp at he;obtain⟨rfl,rfl,rfl,rfl⟩:=he;exact .osl0 A _ _ _
 |fn hf hc _ _ ih1 ih2=>
  intro he ha
  cases a<;>simp at he
  obtain⟨rfl,rfl,rfl⟩:=he
  rw[vY,Bool.and_eq_true,List.all_eq_true,List.all_eq_true] at ha
  exact .fn (by simpa using hf) (by simpa using hc) (fun i x y hx hy=>ih1 i x _ hx (by rw[List.getElem?_map,hy];rfl) rfl (ha.1 _ (List.mem_of_getElem? hy))) (fun i x y hx hy=>ih2 i x _ hx (by rw[List.getElem?_map,hy];rfl) rfl (ha.2 _ (List.mem_of_getElem? hy)))
 |agg hn _ ih=>
  intro he ha
  cases a<;>simp at he
  subst he
  rw[vX,List.all_eq_true] at ha
  exact .agg (by simpa using hn) fun i x y hx hy=>ih i x _ hx (by rw[List.getElem?_map,hy];rfl) rfl (ha _ (List.mem_of_getElem? hy))
 |tup hn _ ih=>
  intro he ha
  cases a<;>simp at he
  subst he
  rw[qU,List.all_eq_true] at ha
  exact .tup (by simpa using hn) fun i x y hx hy=>ih i x _ hx (by rw[List.getElem?_map,hy];rfl) rfl (ha _ (List.mem_of_getElem? hy))
 |iface _ ih=>
  intro he ha
  cases a<;>simp at he
  obtain⟨rfl,rfl⟩:=he
  rw[yL] at ha
  exact .iface (ih rfl ha)
 |iffT _ ih=>
  intro he ha
  cases a<;>simp at he
  obtain⟨rfl,rfl⟩:=he
  rw[yK] at ha
  exact .iffT (ih rfl ha)
 |iffF a'=>
  intro he ha
  cases a<;>simp at he
  obtain⟨rfl,rfl⟩:=he
  exact .iffF _
 |bit h=>intro he ha;cases a<;>simp at he;exact .bit fun hb=>he.1 (h hb)
end
end
section
structure Bx where
 t:TypeId
 cs:List AV
structure AS where
 env:Nat→AV
 box:Nat→Option Bx
 used:Nat→Prop
structure Cx where
 w0:World
 G:Nat→Prop
 M0:Nat→Prop
 N:Nat
 R:Option Nat
 F:Nat→Option Nat
 D:List Deferred
def aT (r:Option Nat):Fence:={fn:=fun _=>True,depth:=none,alive:=false,round:=r}
abbrev Cx.base (cx:Cx):Nat:=cx.w0.heap.size
theorem qV {r:Option Nat} {n:Nat} {P:Program} {f:FuncId} {args:Array Value} {w:World} {R:Ending→World→Prop}:CallsIn (aT r) n P f args w R↔Calls P f args w R:=callsIn_wide (n:=n)
theorem NP {r:Option Nat} {n:Nat} {P:Program} {row:String} {args:Array Value} {w:World} {R:Value→World→Prop}:RowsIn (aT r) n P row args w R↔Rows P row args w R:=
 ⟨fun h c cs=>let ⟨v,w',q,s⟩:=h c cs (room_wide _);⟨v,w',q,s.steps⟩,fun h c cs _=>let ⟨v,w',q,s⟩:=h c cs;⟨v,w',q,stepsIn_wide.2 s⟩⟩
def Mof (cx:Cx) (ι:Nat→Option Nat) (box:Nat→Option Bx) (g:Nat):Prop:=cx.M0 g∨∃b x,box b=some x∧ι b=some g
def iC:Obj→Bool
 | .cells .. =>true
 | .map .. =>true
 |_=>false
def Oth (w w':World):Prop:=∀(g:Nat) (o:Obj),w.heap[g]? =some o→iC o=false→w'.heap[g]? =some o
theorem Oth.refl (w:World):Oth w w:=fun _ _ h _=>h
theorem Oth.trans {a b c:World} (h:Oth a b) (k:Oth b c):Oth a c:=fun g o h1 h2=>k g o (h g o h1 h2) h2
structure Within (cx:Cx) (w:World):Prop where
 os:w.os=cx.w0.os
 tape:w.tape=cx.w0.tape
 output:w.output=cx.w0.output
 evo:Evo cx.w0 w
 oth:Oth cx.w0 w
 block:∀k,k<cx.base→¬cx.G k→w.heap[k]? =cx.w0.heap[k]?
def tL (ι:Nat→Option Nat) (M:Nat→Prop) (w:World) (g:Nat) (x:Bx):Prop:=
 ∃c:Array Value,w.heap[g]? =some (.cells c x.t (0,0))∧x.cs.length≤c.size∧∀(j:Nat) (v:Value) (y:AV),c[j]? =some v→x.cs[j]? =some y→v.oneCell'=true∧RepA ι M w v y
structure HSat (cx:Cx) (ι:Nat→Option Nat) (box:Nat→Option Bx) (used:Nat→Prop) (w:World):Prop where
 wi:Within cx w
 m0:∀g,cx.M0 g→g<cx.base
 fix:∀b g,cx.F b=some g→ι b=some g
 dom:∀b g,ι b=some g→used b∧g<w.heap.size
 ub:∀b x,box b=some x→used b
 own:∀b x,box b=some x→(x.cs=[]∧ι b=none)∨∃g,ι b=some g∧(cx.base≤g∨cx.G g)∧¬cx.M0 g∧tL ι (Mof cx ι box) w g x
 inj:∀b b' x x' g,box b=some x→box b'=some x'→ι b=some g→ι b'=some g→b=b'
def Marks (cx:Cx) (w:World):List Deferred→Prop
 | []=>True
 |d::l=>(∃D,d={target:= .collected D,args:= #[]}∧cx.base≤D∧w.heap[D]? =some (.deferred (some []))∧∀d',d'∈l→d'≠ {target:= .collected D,args:= #[]})∧Marks cx w l
def MarksD (cx:Cx) (w:World) (l:List Deferred):Prop:=∃m n,l=m++(cx.D++n)∧Marks cx w (m++n)
theorem MarksD.marks {cx:Cx} {w:World} {l:List Deferred} (h:MarksD cx w l) (hD:cx.D=[]):Marks cx w l:=by
 obtain⟨m,n,rfl,h⟩:=h
 rw[hD];exact h
structure Sat (cx:Cx) (ι:Nat→Option Nat) (A:AS) (a:Act) (w:World):Prop where
 h:HSat cx ι A.box A.used w
 size:a.tmps.size=cx.N
 defers:MarksD cx w a.defers
 env:∀t,RepA ι (Mof cx ι A.box) w (a.tmps.getD t undef) (A.env t)
theorem HSat.ne {cx:Cx} {ι:Nat→Option Nat} {box:Nat→Option Bx} {used:Nat→Prop} {w:World} (h:HSat cx ι box used w) {b:Nat} {x:Bx} (hb:box b=some x) (hne:x.cs≠ []):
 ∃g,ι b=some g∧(cx.base≤g∨cx.G g)∧¬cx.M0 g∧tL ι (Mof cx ι box) w g x:=by
 rcases h.own b x hb with⟨h1,-⟩|h1
 ·exact absurd h1 hne
 ·exact h1
def AWp (P:Program) (cx:Cx) (c:Code) (Q:Exit→AS→Prop) (A:AS):Prop:=
 ∀ι a w,Sat cx ι A a w→c.wpIn (aT cx.R) 9 P (fun e a' w'=>∃ι' A',Sat cx ι' A' a' w'∧Q e A') a w
section
variable {P:Program} {cx:Cx} {A:AS}
theorem AWp.mono {c:Code} {Q Q':Exit→AS→Prop} (h:AWp P cx c Q A) (hq:∀e A,Q e A→Q' e A):AWp P cx c Q' A:=
 fun ι a w hs=>wpIn_mono (h ι a w hs) fun _ _ _ ⟨ι',A',h1,h2⟩=>⟨ι',A',h1,hq _ _ h2⟩
theorem NQ {Q:Exit→AS→Prop} (h:Q .normal A):AWp P cx .skip Q A:=fun ι a w hs=>wpIn_skip ⟨ι,A,hs,h⟩
theorem NR {Q:Exit→AS→Prop} {l:Nat} (h:Q .normal A):AWp P cx (.label l) Q A:=fun ι a w hs=>wpIn_label ⟨ι,A,hs,h⟩
theorem NS {Q:Exit→AS→Prop} {id:Nat} (h:Q (.exit id) A):AWp P cx (.exit id) Q A:=fun ι a w hs=>wpIn_exit ⟨ι,A,hs,h⟩
theorem NT {Q:Exit→AS→Prop} (h:Q .ret A):AWp P cx .ret Q A:=fun ι a w hs=>wpIn_ret ⟨ι,A,hs,h⟩
def Gi (next:AS→Prop) (Q:Exit→AS→Prop):Exit→AS→Prop
 | .normal,A=>next A
 |e,A=>Q e A
theorem yN {x y:Code} {Q:Exit→AS→Prop} (h:AWp P cx x (Gi (AWp P cx y Q) Q) A):AWp P cx (.seq x y) Q A:=by
 intro ι a w hs
 refine wpIn_seq (wpIn_mono (h ι a w hs) ?_)
 rintro e a' w' ⟨ι',A',h1,h2⟩
 cases e with
 |normal=>exact h2 ι' a' w' h1
 |_=>exact⟨ι',A',h1,h2⟩
def yO (id:Nat) (Q:Exit→AS→Prop):Exit→AS→Prop
 | .exit id',A=>if id'=id then Q .normal A else Q (.exit id') A
 |e,A=>Q e A
theorem Gj {id:Nat} {c:Code} {Q:Exit→AS→Prop} (h:AWp P cx c (yO id Q) A):AWp P cx (.block id c) Q A:=by
 intro ι a w hs
 refine wpIn_block (wpIn_mono (h ι a w hs) ?_)
 rintro e a' w' ⟨ι',A',h1,h2⟩
 cases e with
 |exit id'=>
  simp only[yO] at h2
  simp only[Exit.inBlock]
  split<;>rename_i hh<;>simp only[hh,if_true,if_false] at h2<;>exact⟨ι',A',h1,h2⟩
 |_=>exact⟨ι',A',h1,h2⟩
def AS.eval (A:AS):Operand→AV
 | .tmp t=>A.env t
 | .const v=> .v v
 | .global g=> .v (.pointer (some ⟨g,0,none⟩))
 | .func f=> .v (.func (.func f) #[] #[])
theorem Sat.eval {ι:Nat→Option Nat} {a:Act} {w:World} (h:Sat cx ι A a w) (y:Operand):RepA ι (Mof cx ι A.box) w (a.eval y) (A.eval y):=by
 cases y with
 |tmp t=>exact h.env t
 |_=>exact .d (.v _)
theorem RepA.ofV {ι:Nat→Option Nat} {M:Nat→Prop} {w:World} {v x:Value} (h:RepA ι M w v (.v x)):v=x:=by
 cases h with
 |d h=>cases h;rfl
theorem Gl {c:Operand} {x y:Code} {Q:Exit→AS→Prop} {b:Bool} (hc:A.eval c= .v (.bool b)) (ht:b=true→AWp P cx x Q A) (hf:b=false→AWp P cx y Q A):AWp P cx (.cond c x y) Q A:=by
 intro ι a w hs
 have h:=hs.eval c
 rw[hc] at h
 exact wpIn_cond_split h.ofV (fun h=>ht h ι a w hs) (fun h=>hf h ι a w hs)
structure Ent (A A':AS):Prop where
 env:∀t,A'.env t= .any∨A'.env t=A.env t
 box:∀b x,A'.box b=some x→A.box b=some x
 used:∀b,A.used b→A'.used b
theorem Mof.mono {ι:Nat→Option Nat} {box box':Nat→Option Bx} (h:∀b x,box' b=some x→box b=some x) {g:Nat}:Mof cx ι box' g→Mof cx ι box g
 | .inl h=> .inl h
 | .inr ⟨b,x,h1,h2⟩=> .inr ⟨b,x,h b x h1,h2⟩
theorem RepA.less {ι:Nat→Option Nat} {M M':Nat→Prop} {w:World} (hM:∀g,M' g→M g) {v:Value} {y:AV} (h:RepA ι M w v y):RepA ι M' w v y:=
 h.keep (fun _ _ h=>h) (fun g _ h=>hM g h) (Evo.refl w) (fun _ _ _=>rfl)
theorem Sat.ent {ι:Nat→Option Nat} {A':AS} {a:Act} {w:World} (h:Sat cx ι A a w) (he:Ent A A'):Sat cx ι A' a w where
 h:={
  wi:=h.h.wi
  m0:=h.h.m0
  fix:=h.h.fix
  dom:=fun b g hb=>⟨he.used b (h.h.dom b g hb).1,(h.h.dom b g hb).2⟩
  ub:=fun b x hb=>he.used b (h.h.ub b x (he.box b x hb))
  own:=fun b x hb=>by
   rcases h.h.own b x (he.box b x hb) with h1|⟨g,h1,h2,h3,c,h4,h5,h6⟩
   ·exact .inl h1
   exact .inr ⟨g,h1,h2,h3,c,h4,h5,fun j v y hv hy=>⟨(h6 j v y hv hy).1,(h6 j v y hv hy).2.less fun _=>Mof.mono he.box⟩⟩
  inj:=fun b b' x x' g h1 h2=>h.h.inj b b' x x' g (he.box b x h1) (he.box b' x' h2)}
 size:=h.size
 defers:=h.defers
 env:=fun t=>by
  rcases he.env t with h1|h1
  ·rw[h1];exact .any _
  ·rw[h1];exact(h.env t).less fun _=>Mof.mono he.box
structure Cut (cx:Cx) (p:Nat→Bool) (r:Nat→Nat) (A A':AS):Prop where
 env:∀t,A'.env t= .any∨(A.env t=(A'.env t).ren r∧(A'.env t).names p=true)
 box:∀b x,A'.box b=some x→A.box (r b)=some ⟨x.t,x.cs.map (AV.ren r)⟩∧p b=true∧∀y,y∈x.cs→y.names p=true
 inj:∀b b' x x',A'.box b=some x→A'.box b'=some x'→r b=r b'→b=b'
 used:∀b,p b=true→A'.used b
 fix:∀b g,cx.F b=some g→p b=true∧r b=b
theorem Sat.cut {p:Nat→Bool} {r:Nat→Nat} {ι:Nat→Option Nat} {A':AS} {a:Act} {w:World} (h:Sat cx ι A a w) (he:Cut cx p r A A'):Sat cx (eB p r ι) A' a w:=by
 have hM:∀g,Mof cx (eB p r ι) A'.box g→Mof cx ι A.box g:=by
  rintro g (h|⟨b,x,h1,h2⟩)
  ·exact .inl h
  ·refine .inr ⟨r b,_,(he.box b x h1).1,?_⟩
   simpa[eB,(he.box b x h1).2.1] using h2
 refine⟨⟨h.h.wi,h.h.m0,fun b g hb=>by simp[eB,(he.fix b g hb).1,(he.fix b g hb).2,h.h.fix b g hb],?_,fun b x hx=>he.used b (he.box b x hx).2.1,?_,?_⟩,h.size,h.defers,?_⟩
 ·intro b g hg
  simp only[eB] at hg
  split at hg
  ·rename_i hlt;exact⟨he.used b hlt,(h.h.dom _ g hg).2⟩
  ·cases hg
 ·intro b x hx
  obtain⟨h0,hlt,hy⟩:=he.box b x hx
  rcases h.h.own _ _ h0 with⟨h1,h2⟩|⟨g,h1,h2,h3,c,h4,h5,h6⟩
  ·exact .inl ⟨by simpa using h1,by simp[eB,h2]⟩
  refine .inr ⟨g,by simp[eB,hlt,h1],h2,h3,c,h4,by simpa using h5,fun j v y hv hj=> ?_⟩
  have:=h6 j v (y.ren r) hv (by simp[hj])
  exact⟨this.1,(this.2.less hM).cut rfl (hy y (List.mem_of_getElem? hj))⟩
 ·intro b b' x x' g h1 h2 h3 h4
  obtain⟨e1,e2,-⟩:=he.box b x h1
  obtain⟨e3,e4,-⟩:=he.box b' x' h2
  simp only[eB,e2,e4,if_true] at h3 h4
  exact he.inj b b' x x' h1 h2 (h.h.inj _ _ _ _ g e1 e3 h3 h4)
 ·intro t
  rcases he.env t with h1|⟨h1,h2⟩
  ·rw[h1];exact .any _
  ·have:=(h.env t).less hM
   exact this.cut h1 h2
theorem NU {p:Nat→Bool} {r:Nat→Nat} {c:Code} {Q:Exit→AS→Prop} {A':AS} (he:Cut cx p r A A') (h:AWp P cx c Q A'):AWp P cx c Q A:=fun _ a w hs=>h _ a w (hs.cut he)
theorem Gm {σ:Type} {c:Code} {Q:Exit→AS→Prop} (I:σ→AS) (μ:σ→Nat) (p:Nat→Bool) (r:Nat→Nat) (s₀:σ) (h₀:Cut cx p r A (I s₀))
 (round:∀s,AWp P cx c (Gi (fun A'=>∃s' p' r',Cut cx p' r' A' (I s')∧μ s'<μ s) Q) (I s)):AWp P cx (.loop c) Q A:=by
 intro ι a w hs
 refine wpIn_loop_ghost (fun m a w=>∃s ι,μ s=m∧Sat cx ι (I s) a w) (μ s₀) ⟨s₀,_,rfl,hs.cut h₀⟩ ?_
 rintro m a w ⟨s,ι,rfl,hs⟩
 refine wpIn_mono (round s ι a w hs) ?_
 rintro e a' w' ⟨ι',A',h1,h2⟩
 cases e with
 |normal=>
  obtain⟨s',p',r',h3,h4⟩:=h2
  exact⟨μ s',h4,s',_,rfl,h1.cut h3⟩
 |_=>exact⟨ι',A',h1,h2⟩
end
end
end Go.Proofs.YtlikpcpllahalaaGreat.V
