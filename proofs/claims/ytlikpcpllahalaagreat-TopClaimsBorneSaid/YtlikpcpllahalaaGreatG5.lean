/- Parts of the proof. -/
import Derived.Test.YtlikpcpllahalaaGreatG4
set_option linter.unusedSimpArgs false
set_option linter.unusedVariables false
namespace Go.Proofs.YtlikpcpllahalaaGreat.V
open Go.RowKit
section
variable {P:Program} {cx:Cx} {ι:Nat→Option Nat} {box:Nat→Option Bx} {used:Nat→Prop} {M:Nat→Prop} {w:World}
theorem CG {w w':World} (hb:Below w.heap.size w w'):Evo w w':=
 ⟨hb.size,fun g c t h=>⟨c,by rw[hb.block g (Array.getElem?_eq_some_iff.1 h).1];exact h,rfl⟩⟩
theorem tQ (hs:HSat cx ι box used w) {w':World} (hb:Below w.heap.size w w'):Step cx ι box used w ι box used w':=by
 have hev:=CG hb
 have hk:∀v y,RepA ι (Mof cx ι box) w v y→RepA ι (Mof cx ι box) w' v y:=fun v y h=>RepA.keep (w:=w) (w':=w') (fun _ _ h=>h) (fun _ _ h=>h) hev (fun g hg _=>hb.block g hg) h
 refine⟨⟨⟨hb.os.trans hs.wi.os,hb.tape.trans hs.wi.tape,hb.output.trans hs.wi.output,hs.wi.evo.trans hev,hs.wi.oth.trans (fun g o h _=>by rw[hb.block g (Array.getElem?_eq_some_iff.1 h).1];exact h),fun k hk hG=> ?_⟩,hs.m0,hs.fix,fun b g hg=>⟨(hs.dom b g hg).1,Nat.lt_of_lt_of_le (hs.dom b g hg).2 hb.size⟩,hs.ub,?_,hs.inj⟩,hk,fun g o h _=>by rw[hb.block g (Array.getElem?_eq_some_iff.1 h).1];exact h⟩
 ·rw[hb.block k (Nat.lt_of_lt_of_le hk hs.wi.evo.size)]
  exact hs.wi.block k hk hG
 ·intro b x h
  rcases hs.own b x h with h|⟨g,e1,e2,e3,c,e4,e5,e6⟩
  ·exact .inl h
  ·exact .inr ⟨g,e1,e2,e3,c,by rw[hb.block g (hs.dom b g e1).2];exact e4,e5,fun j v y hv hy=>⟨(e6 j v y hv hy).1,hk _ _ (e6 j v y hv hy).2⟩⟩
def Fun (P:Program) (f:FuncId) (args:List AV) (x:AV):Prop:=
 ∀(M:Nat→Prop) (w:World) (vs:Array Value),(∀g,M g→g<w.heap.size)→vs.size=args.length→(∀(i:Nat) (v:Value) (y:AV),vs[i]? =some v→args[i]? =some y→RepD M w v y)→
  Calls P f vs w fun e w'=>∃v,e= .returned v∧RepD M w' v x∧Below w.heap.size w w'
inductive Frz (fp:List (Nat×Bx)):AV→AV→Prop
 |data {y:AV} (h:y.isData=true):Frz fp y y
 |less {k:Nat} {l:List (List AV)}:Frz fp (.sl true k l) (.sl false k l)
 |nil {f:Bool} {k:Nat}:Frz fp (.v (.slice none 0 0)) (.sl f k [])
 |osl {b k off n:Nat} {bx:Bx} {l:List (List AV)} (hb:(b,bx)∈fp) (hn:n=l.length) (hk:∀r,r∈l→r.length=k) (h0:0<k) (hle:off+n*k≤bx.cs.length) (hf:∀(i:Nat) (x y:AV),((bx.cs.drop off).take (n*k))[i]? =some x→l.flatten[i]? =some y→Frz fp x y):Frz fp (.osl b k off n) (.sl false k l)
 |ptr {b off:Nat} {bx:Bx} {l:List AV} (hb:(b,bx)∈fp) (hle:off+l.length≤bx.cs.length) (hf:∀(i:Nat) (x y:AV),(bx.cs.drop off)[i]? =some x→l[i]? =some y→Frz fp x y):Frz fp (.ptr b off) (.pp l)
 |fn {f:Fn} {l l' m m':List AV} (hn:l.length=l'.length) (hm:m.length=m'.length) (h:∀(i:Nat) (x y:AV),l[i]? =some x→l'[i]? =some y→Frz fp x y) (h2:∀(i:Nat) (x y:AV),m[i]? =some x→m'[i]? =some y→Frz fp x y):Frz fp (.fn f l m) (.fn f l' m')
 |agg {l l':List AV} (hn:l.length=l'.length) (h:∀(i:Nat) (x y:AV),l[i]? =some x→l'[i]? =some y→Frz fp x y):Frz fp (.agg l) (.agg l')
 |tup {l l':List AV} (hn:l.length=l'.length) (h:∀(i:Nat) (x y:AV),l[i]? =some x→l'[i]? =some y→Frz fp x y):Frz fp (.tup l) (.tup l')
def kills (fp:List (Nat×Bx)):List (Nat×Option Bx):=fp.map fun p=>(p.1,none)
theorem GQ {fp:List (Nat×Bx)} {b:Nat} {x:Bx} (h:ax box (kills fp) b=some x):box b=some x∧∀y,(b,y)∉fp:=by
 induction fp with
 |nil=>exact⟨h,by simp⟩
 |cons p fp ih=>
  simp only[kills,List.map_cons,ax] at h
  by_cases hb:b=p.1
  ·simp[hb] at h
  ·rw[if_neg hb] at h
   obtain⟨h1,h2⟩:=ih h
   refine⟨h1,fun y hy=> ?_⟩
   rcases List.mem_cons.1 hy with rfl|hy
   ·exact hb rfl
   ·exact h2 y hy
theorem GR {k:Nat} (hk:0<k):∀(l:List (List AV)) (i j:Nat) (row:List AV) (y:AV),(∀r,r∈l→r.length=k)→l[i]? =some row→row[j]? =some y→l.flatten[i*k+j]? =some y
 | [],i,j,row,y,_,h,_=>by simp at h
 |r::l,0,j,row,y,hr,h,hy=>by
  simp at h;subst h
  rw[List.flatten_cons,Nat.zero_mul,Nat.zero_add,List.getElem?_append_left (List.getElem?_eq_some_iff.1 hy).1]
  exact hy
 |r::l,i+1,j,row,y,hr,h,hy=>by
  have hrk:=hr r ai
  rw[List.flatten_cons,List.getElem?_append_right (by rw[Nat.add_mul];omega),show(i+1)*k+j-r.length=i*k+j by rw[Nat.add_mul];omega]
  exact GR hk l i j row y (fun r h=>hr r (by simp[h])) (by simpa using h) hy
theorem RepA.fn' {v:Value} {f:Fn} {lf lc:List AV} (h:RepA ι M w v (.fn f lf lc)):∃fs cs:Array Value,v= .func f fs cs∧fs.size=lf.length∧cs.size=lc.length∧(∀(i:Nat) (x:Value) (y:AV),fs[i]? =some x→lf[i]? =some y→RepA ι M w x y)∧
 (∀(i:Nat) (x:Value) (y:AV),cs[i]? =some x→lc[i]? =some y→RepA ι M w x y):=by
 cases h with
 |d h=>cases h with
  |fn h1 h2 h3 h4=>exact⟨_,_,rfl,h1,h2,fun i x y hx hy=> .d (h3 i x y hx hy),fun i x y hx hy=> .d (h4 i x y hx hy)⟩
 |fn h1 h2 h3 h4=>exact⟨_,_,rfl,h1,h2,h3,h4⟩
theorem tT (hs:HSat cx ι box used w) {fp:List (Nat×Bx)} (hfp:∀b x,(b,x)∈fp→box b=some x) {y x:AV} (hf:Frz fp y x):∀ {v:Value},RepA ι (Mof cx ι box) w v y→RepD (Mof cx ι (ax box (kills fp))) w v x:=by
 have hM:∀g,Mof cx ι (ax box (kills fp)) g→Mof cx ι box g:=fun g=>Mof.mono fun b x h=>(GQ h).1
 have hD:∀ {v:Value} {y:AV},RepA ι (Mof cx ι box) w v y→y.isData=true→RepD (Mof cx ι (ax box (kills fp))) w v y:=fun h hy=>(h.less hM).toD hy
 have hnoM:∀b bx g,(b,bx)∈fp→ι b=some g→¬cx.M0 g→¬Mof cx ι (ax box (kills fp)) g:=by
  rintro b bx g hb hg hgM (h|⟨i,x,h1,h2⟩)
  ·exact hgM h
  ·obtain⟨h3,h4⟩:=GQ h1
   have:=hs.inj i b x bx g h3 (hfp b bx hb) h2 hg
   subst this
   exact h4 bx hb
 induction hf with
 |data h=>exact fun hv=>hD hv h
 |less=>
  intro v hv
  have h:=hD hv (F7 _ _ _)
  cases h with
  |sl b off x hn hc hm hf hk hA hl hx=>exact .sl b off x hn hc hm ai hk hA hl hx
 |nil=>
  intro v hv
  exact(GM (hv.less hM)).sl'
 | @osl b k off n bx l hb hn hk h0 hle hf ih=>
   intro v hv
   rcases hv.osl' with⟨g,cap,c,t,rfl,hg,hnc,hcm,hh,hsz⟩|⟨rfl,A,rfl⟩
   ·rcases hs.own b bx (hfp b bx hb) with⟨hcs,hno⟩|⟨g',hg',hgb,hgM,c',hc',hlen,hcc⟩
    ·rw[hg] at hno;cases hno
    ·rw[hg] at hg'
     injection hg' with hg'
     subst hg'
     rw[hh] at hc'
     injection hc' with hc'
     injection hc' with e1 e2
     subst e1
     have hgM':=hnoM b bx g hb hg hgM
     have hcell:∀i j,i<l.length→j<k→off+i*k+j<bx.cs.length:=fun i j hi hj=>by
      have:(i+1)*k≤n*k:=Nat.mul_le_mul_right _ byOmega
      rw[Nat.add_mul] at this
      omega
     refine .sl g off (fun i j=>c.getD (off+i*k+j) undef) hn hnc hcm ai hk (fun _=>⟨rfl,hgM',(hs.dom b g hg).2⟩) (fun i j hi hj=> ?_) (fun i row j y hr hy=> ?_)
     ·have h1:=hcell i j hi hj
      have h2:off+i*k+j<c.size:=byOmega
      rw[cell_of_row _ _ _ _ _ _ hh,Array.getD_eq_getD_getElem?,Array.getElem?_eq_getElem h2]
      exact⟨rfl,(hcc _ _ _ (Array.getElem?_eq_getElem h2) (List.getElem?_eq_getElem h1)).1⟩
     ·have hi:=(List.getElem?_eq_some_iff.1 hr).1
      have hrk:=hk row (List.mem_of_getElem? hr)
      have hj:j<k:=by have:=(List.getElem?_eq_some_iff.1 hy).1;omega
      have h1:=hcell i j hi hj
      have h2:off+i*k+j<c.size:=byOmega
      have hfl:=GR h0 l i j row y hk hr hy
      have hlt:i*k+j<n*k:=by
       have:(i+1)*k≤n*k:=Nat.mul_le_mul_right _ byOmega
       rw[Nat.add_mul] at this
       omega
      have hx:((bx.cs.drop off).take (n*k))[i*k+j]? =some bx.cs[off+i*k+j]:=by
       rw[List.getElem?_take,if_pos hlt,List.getElem?_drop,←Nat.add_assoc,List.getElem?_eq_getElem h1]
      have:=(hcc _ _ _ (Array.getElem?_eq_getElem h2) (List.getElem?_eq_getElem h1)).2
      rw[Array.getD_eq_getD_getElem?,Array.getElem?_eq_getElem h2]
      exact ih _ _ y hx hfl this
   ·have hl:l=[]:=List.eq_nil_of_length_eq_zero hn.symm
    subst hl
    exact .sl (b:=0) (off:=0) (x:=fun _ _=>undef) rfl (Nat.le_refl _) (Nat.zero_le _) ai ai ai ai ai
 | @ptr b off bx l hb hle hf ih=>
   intro v hv
   obtain⟨g,hg,rfl⟩:=hv.ptr'
   rcases hs.own b bx (hfp b bx hb) with⟨hcs,hno⟩|⟨g',hg',hgb,hgM,c,hc,hlen,hcc⟩
   ·rw[hg] at hno;cases hno
   ·rw[hg] at hg'
    injection hg' with hg'
    subst hg'
    refine .pp (fun j=>c.getD (off+j) undef) (hnoM b bx g hb hg hgM) (hs.dom b g hg).2 (fun j hj=> ?_) (fun j y hy=> ?_)
    ·have h2:off+j<c.size:=byOmega
     have h1:off+j<bx.cs.length:=byOmega
     rw[cell_of_row _ _ _ _ _ _ hc,Array.getD_eq_getD_getElem?,Array.getElem?_eq_getElem h2]
     exact⟨rfl,(hcc _ _ _ (Array.getElem?_eq_getElem h2) (List.getElem?_eq_getElem h1)).1⟩
    ·have hj:=(List.getElem?_eq_some_iff.1 hy).1
     have h2:off+j<c.size:=byOmega
     have h1:off+j<bx.cs.length:=byOmega
     have hx:(bx.cs.drop off)[j]? =some bx.cs[off+j]:=by rw[List.getElem?_drop,List.getElem?_eq_getElem h1]
     have:=(hcc _ _ _ (Array.getElem?_eq_getElem h2) (List.getElem?_eq_getElem h1)).2
     rw[Array.getD_eq_getD_getElem?,Array.getElem?_eq_getElem h2]
     exact ih _ _ y hx hy this
 |fn hn hm _ _ ih1 ih2=>
  intro v hv
  obtain⟨fs,cs,rfl,e1,e2,e3,e4⟩:=hv.fn'
  refine .fn (e1.trans hn) (e2.trans hm) (fun i u y hu hy=> ?_) (fun i u y hu hy=> ?_)
  ·have hi:=(Array.getElem?_eq_some_iff.1 hu).1
   have hl:=List.getElem?_eq_getElem (show i<_ from by rw[←e1];exact hi)
   exact ih1 i _ y hl hy (e3 i u _ hu hl)
  ·have hi:=(Array.getElem?_eq_some_iff.1 hu).1
   have hl:=List.getElem?_eq_getElem (show i<_ from by rw[←e2];exact hi)
   exact ih2 i _ y hl hy (e4 i u _ hu hl)
 |agg hn _ ih=>
  intro v hv
  obtain⟨vs,rfl,hs',hh⟩:=hv.agg'
  refine .agg (hs'.trans hn) fun i u y hu hy=> ?_
  have hi:=(Array.getElem?_eq_some_iff.1 hu).1
  have hl:=List.getElem?_eq_getElem (show i<_ from by rw[←hs'];exact hi)
  exact ih i _ y hl hy (hh i u _ hu hl)
 |tup hn _ ih=>
  intro v hv
  obtain⟨vs,rfl,hs',hh⟩:=hv.tup'
  refine .tup (hs'.trans hn) fun i u y hu hy=> ?_
  have hi:=(Array.getElem?_eq_some_iff.1 hu).1
  have hl:=List.getElem?_eq_getElem (show i<_ from by rw[←hs'];exact hi)
  exact ih i _ y hl hy (hh i u _ hu hl)
theorem GU (hs:HSat cx ι box used w) (fp:List (Nat×Bx)):Step cx ι box used w ι (ax box (kills fp)) used w:=by
 induction fp with
 |nil=>exact Step.refl hs
 |cons p fp ih=>
  have:=ih.trans (kr ih.h p.1)
  rw[wz] at this
  exact this
def bn (P:Program) (f:FuncId):Prop:=∀vs w,(callFunc f vs).run P w= .ok (.enter f vs) w
def Enters (P:Program) (o:Oper) (ρ:Operand→AV) (f:FuncId) (l:List AV):Prop:=
 bn P f→∀(ι:Nat→Option Nat) (M:Nat→Prop) (a:Act) (w:World),(∀y,y∈o.op.operands→RepA ι M w (a.eval y) (ρ y))→
  ∃vs:Array Value,(execOp a.eval o).run P w= .ok (.enter f vs) w∧vs.size=l.length∧∀(i:Nat) (v:Value) (y:AV),vs[i]? =some v→l[i]? =some y→RepA ι M w v y
theorem yU {o:Oper} {ρ:Operand→AV} {f:FuncId} {args:Array Operand} {ats:Array TypeId} (ho:o.op= .call {callee:= .value (.func f),args:=args,argTypes:=ats}):Enters P o ρ f (args.toList.map ρ):=by
 intro hc ι M a w hops
 refine⟨args.map a.eval,?_,by simp,fun i v y hv hy=> ?_⟩
 ·have h1:=hc (args.map a.eval) w
  simp[execOp,ho,resolve,invoke,Act.eval,Deferred.ofValue,h1]
 ·simp only[Array.getElem?_map,Option.map_eq_some_iff,List.getElem?_map,Array.getElem?_toList] at hv hy
  obtain⟨p,hp,rfl⟩:=hv
  obtain⟨q,hq,rfl⟩:=hy
  rw[hp] at hq
  injection hq with hq
  subst hq
  exact hops p (aM ho (by
   simp only[Op.operands,Call.operands]
   exact Array.mem_append.2 (.inr (Array.mem_of_getElem? hp))))
theorem yV {vs us:Array Value} {l m:List AV} (h1:vs.size=l.length) (h2:∀(i:Nat) (v:Value) (y:AV),vs[i]? =some v→l[i]? =some y→RepA ι M w v y) (h4:∀(i:Nat) (v:Value) (y:AV),us[i]? =some v→m[i]? =some y→RepA ι M w v y):
 ∀(i:Nat) (v:Value) (y:AV),(vs++us)[i]? =some v→(l++m)[i]? =some y→RepA ι M w v y:=by
 intro i v y hv hy
 by_cases hi:i<vs.size
 ·rw[Array.getElem?_append_left hi] at hv
  rw[List.getElem?_append_left byOmega] at hy
  exact h2 i v y hv hy
 ·rw[Array.getElem?_append_right byOmega] at hv
  rw[List.getElem?_append_right byOmega,←h1] at hy
  exact h4 _ v y hv hy
theorem OG {o:Oper} {ρ:Operand→AV} {c:Operand} {f:FuncId} {first caps:List AV} {args:Array Operand} {ats:Array TypeId} (ho:o.op= .call {callee:= .value c,args:=args,argTypes:=ats}) (hf:ρ c= .fn (.func f) first caps):
 Enters P o ρ f (first++args.toList.map ρ++caps):=by
 intro hc ι M a w hops
 have h1:=hops c (aM ho (by simp[Op.operands,Call.operands]))
 rw[hf] at h1
 obtain⟨fs,cs,hv,e1,e2,e3,e4⟩:=h1.fn'
 refine⟨fs++args.map a.eval++cs,?_,by simp[e1,e2],?_⟩
 ·have h1:=hc (fs++args.map a.eval++cs) w
  simp[execOp,ho,resolve,invoke,hv,Deferred.ofValue] at h1 ⊢
  exact h1
 ·refine yV (by simp[e1]) (yV e1 e3 ?_) e4
  intro i v y hv hy
  simp only[Array.getElem?_map,Option.map_eq_some_iff,List.getElem?_map,Array.getElem?_toList] at hv hy
  obtain⟨p,hp,rfl⟩:=hv
  obtain⟨q,hq,rfl⟩:=hy
  rw[hp] at hq
  injection hq with hq
  subst hq
  exact hops p (aM ho (by
   simp only[Op.operands,Call.operands]
   exact Array.mem_append.2 (.inr (Array.mem_of_getElem? hp))))
theorem OH {o:Oper} {ρ:Operand→AV} {c:Operand} {f:FuncId} {args:Array Operand} {ats:Array TypeId} (ho:o.op= .call {callee:= .value c,args:=args,argTypes:=ats}) (hf:ρ c= .v (.func (.func f) #[] #[])):
 Enters P o ρ f (args.toList.map ρ):=by
 intro hc ι M a w hops
 have h1:=hops c (aM ho (by simp[Op.operands,Call.operands]))
 rw[hf] at h1
 have hv:=h1.ofV
 refine⟨args.map a.eval,?_,by simp,?_⟩
 ·have h1:=hc (args.map a.eval) w
  simp[execOp,ho,resolve,invoke,hv,Deferred.ofValue] at h1 ⊢
  exact h1
 ·intro i v y hv hy
  simp only[Array.getElem?_map,Option.map_eq_some_iff,List.getElem?_map,Array.getElem?_toList] at hv hy
  obtain⟨p,hp,rfl⟩:=hv
  obtain⟨q,hq,rfl⟩:=hy
  rw[hp] at hq
  injection hq with hq
  subst hq
  exact hops p (aM ho (by
   simp only[Op.operands,Call.operands]
   exact Array.mem_append.2 (.inr (Array.mem_of_getElem? hp))))
theorem wB (hh:HSat cx ι box used w) {g:Nat} (h:Mof cx ι box g):g<w.heap.size:=by
 rcases h with h|⟨b,x,_,h⟩
 ·have h1:=hh.m0 g h
  have h2:=hh.wi.evo.size
  simp only[Cx.base] at h1
  omega
 ·exact(hh.dom b g h).2
theorem GV {o:Oper} {ρ:Operand→AV} {f:FuncId} {l:List AV} {fp:List (Nat×Bx)} {xs:List AV} {x:AV} (ho:Enters P o ρ f l) (hc:bn P f) (hF:Fun P f xs x)
 (hn:l.length=xs.length) (hfz:∀(i:Nat) (p y:AV),l[i]? =some p→xs[i]? =some y→Frz fp p y):Yields P cx o ρ ⟨fp,x,kills fp⟩:=by
 intro ι box used a w hh hdef hfp hfr hops K Q hK
 have s1:=GU hh fp
 obtain⟨vs,hex,hsz,hvs⟩:=ho hc ι _ a w hops
 have hcall:=hF (Mof cx ι (ax box (kills fp))) w vs (fun g h=>wB s1.h h) (hsz.trans hn) fun i v y hv hy=>by
  have hi:=(Array.getElem?_eq_some_iff.1 hv).1
  have hl:=List.getElem?_eq_getElem (l:=l) (show i<l.length by omega)
  exact tT hh hfp (hfz i _ y hl hy) (hvs i v _ hv hl)
 unfold Oper.wp
 rw[hex,Oper.upon_enter]
 refine hcall.mono ?_
 rintro e w' ⟨v,rfl,hv,hb⟩
 have s2:=tQ s1.h hb
 exact hK v ι w' ((s1.trans s2).umono fun b hb=> .inl hb) (.d hv)
def AV.flat0:AV→Bool
 | .v _=>true
 | .agg l=>l.attach.all fun⟨x,_⟩=>x.flat0
 | .tup l=>l.attach.all fun⟨x,_⟩=>x.flat0
 |_=>false
theorem RepD.flat0 {M':Nat→Prop} {w':World} {v:Value} {x:AV} (h:RepD M w v x) (hx:x.flat0=true):RepD M' w' v x:=by
 induction h with
 |v x=>exact .v x
 |sl=>simp[AV.flat0] at hx
 |pp=>simp[AV.flat0] at hx
 |mp=>simp[AV.flat0] at hx
 |fn=>simp[AV.flat0] at hx
 |agg hn _ ih=>
  rw[AV.flat0] at hx
  simp only[List.all_eq_true,List.mem_attach,forall_const,Subtype.forall] at hx
  exact .agg hn fun i x y h1 h2=>ih i x y h1 h2 (hx _ (List.mem_of_getElem? h2))
 |tup hn _ ih=>
  rw[AV.flat0] at hx
  simp only[List.all_eq_true,List.mem_attach,forall_const,Subtype.forall] at hx
  exact .tup hn fun i x y h1 h2=>ih i x y h1 h2 (hx _ (List.mem_of_getElem? h2))
theorem CJ {o:Oper} {ρ:Operand→AV} {f:FuncId} {l:List AV} {fp:List (Nat×Bx)} {xs:List AV} {x:AV} (ho:Enters P o ρ f l) (hc:bn P f) (hF:Fun P f xs x) (hx:x.flat0=true)
 (hn:l.length=xs.length) (hfz:∀(i:Nat) (p y:AV),l[i]? =some p→xs[i]? =some y→Frz fp p y):Yields P cx o ρ ⟨fp,x,[]⟩:=by
 intro ι box used a w hh hdef hfp hfr hops K Q hK
 have s1:=GU hh fp
 obtain⟨vs,hex,hsz,hvs⟩:=ho hc ι _ a w hops
 have hcall:=hF (Mof cx ι (ax box (kills fp))) w vs (fun g h=>wB s1.h h) (hsz.trans hn) fun i v y hv hy=>by
  have hi:=(Array.getElem?_eq_some_iff.1 hv).1
  have hl:=List.getElem?_eq_getElem (l:=l) (show i<l.length by omega)
  exact tT hh hfp (hfz i _ y hl hy) (hvs i v _ hv hl)
 unfold Oper.wp
 rw[hex,Oper.upon_enter]
 refine hcall.mono ?_
 rintro e w' ⟨v,rfl,hv,hb⟩
 have s2:=tQ hh hb
 exact hK v ι w' (s2.umono fun b hb=> .inl hb) (.d (hv.flat0 hx))
def AV.lens:AV→Bool
 | .sl _ _ l=>decide (l.length≤maxLen)&&l.attach.all fun⟨row,_⟩=>row.attach.all fun⟨y,_⟩=>y.lens
 | .osl _ _ _ n=>decide (n≤maxLen)
 | .agg l=>l.attach.all fun⟨x,_⟩=>x.lens
 | .tup l=>l.attach.all fun⟨x,_⟩=>x.lens
 |_=>true
decreasing_by
 ·rename_i h1 h2
  have:=List.sizeOf_lt_of_mem h1
  have:=List.sizeOf_lt_of_mem h2
  simp;omega
 ·rename_i h;have:=List.sizeOf_lt_of_mem h;simp;omega
 ·rename_i h;have:=List.sizeOf_lt_of_mem h;simp;omega
@[simp] theorem abC (x:Value):(AV.v x).lens=true:=by simp[AV.lens]
@[simp] theorem abD (p:Prop):(AV.bit p).lens=true:=by simp[AV.lens]
@[simp] theorem abE (es:Array MapEntry) (c:Nat):(AV.mp es c).lens=true:=by simp[AV.lens]
@[simp] theorem abF:AV.any.lens=true:=by simp[AV.lens]
@[simp] theorem abG (b o:Nat):(AV.ptr b o).lens=true:=by simp[AV.lens]
@[simp] theorem abH (l:List AV):(AV.pp l).lens=true:=by simp[AV.lens]
@[simp] theorem abI (f:Fn) (l m:List AV):(AV.fn f l m).lens=true:=by simp[AV.lens]
@[simp] theorem abJ (t:TypeId) (x:AV):(AV.iface t x).lens=true:=by simp[AV.lens]
@[simp] theorem abK (c:Bool) (x:AV):(AV.iff c x).lens=true:=by simp[AV.lens]
@[simp] theorem abL (b k o n:Nat):(AV.osl b k o n).lens=decide (n≤maxLen):=by simp[AV.lens]
@[simp] theorem OI (f:Bool) (k:Nat) (l:List (List AV)):(AV.sl f k l).lens=(decide (l.length≤maxLen)&&l.all fun row=>row.all AV.lens):=by
 rw[AV.lens];simp[List.all_eq,List.attach]
@[simp] theorem GX (l:List AV):(AV.agg l).lens=l.all AV.lens:=by
 rw[AV.lens];simp[List.all_eq,List.attach]
@[simp] theorem GY (l:List AV):(AV.tup l).lens=l.all AV.lens:=by
 rw[AV.lens];simp[List.all_eq,List.attach]
theorem mH {l:List AV} (h:∀(i:Nat) (y:AV),l[i]? =some y→y.lens=true):l.all AV.lens=true:=by
 rw[List.all_eq_true]
 intro y hy
 obtain⟨i,hi⟩:=List.mem_iff_getElem?.1 hy
 exact h i y hi
theorem RepD.lens {v:Value} {a:AV} (h:RepD M w v a):a.lens=true:=by
 induction h with
 |v=>simp
 |pp=>simp
 |mp=>simp
 |fn=>simp
 | @sl A n cap full k l b off x hn hc hm hf hk hA hl hx ih=>
   rw[OI,Bool.and_eq_true]
   refine⟨by simp;omega,?_⟩
   rw[List.all_eq_true]
   intro row hr
   obtain⟨i,hi⟩:=List.mem_iff_getElem?.1 hr
   exact mH fun j y hy=>ih i row j y hi hy
 | @agg vs l hn h ih=>
   rw[GX]
   refine mH fun i y hy=> ?_
   have:=(List.getElem?_eq_some_iff.1 hy).1
   exact ih i _ y (Array.getElem?_eq_getElem byOmega) hy
 | @tup vs l hn h ih=>
   rw[GY]
   refine mH fun i y hy=> ?_
   have:=(List.getElem?_eq_some_iff.1 hy).1
   exact ih i _ y (Array.getElem?_eq_getElem byOmega) hy
theorem RepA.lens {v:Value} {a:AV} (h:RepA ι M w v a):a.lens=true:=by
 induction h with
 |d h=>exact h.lens
 |osl h h1 h2=>simp;omega
 | @agg vs l hn h ih=>
   rw[GX]
   refine mH fun i y hy=> ?_
   have:=(List.getElem?_eq_some_iff.1 hy).1
   exact ih i _ y (Array.getElem?_eq_getElem byOmega) hy
 | @tup vs l hn h ih=>
   rw[GY]
   refine mH fun i y hy=> ?_
   have:=(List.getElem?_eq_some_iff.1 hy).1
   exact ih i _ y (Array.getElem?_eq_getElem byOmega) hy
 |_=>simp
inductive ResIs (P:Program) (A:AS):ResultVar→AV→Prop
 |tmp (t:Tmp):ResIs P A (.tmp t) (A.env t)
 |cell {a:Tmp} {t:TypeId} {ag:Bool} {n b off:Nat} {bx:Bx} {y:AV} (ha:A.env a= .ptr b off) (hb:A.box b=some bx) (hne:bx.cs≠ []) (h1:∀w,(isAgg t).run P w= .ok ag w) (h2:∀w,(sizeOf t).run P w= .ok n w) (hx:eD ag n off bx.cs=some y):ResIs P A (.cell a t) y
def CK (tmps:Array Value):ResultVar→Sem Value
 | .tmp t=>pure (tmps.getD t undef)
 | .cell a t=>do loadVar t (←asAddr (tmps.getD a undef))
theorem GZ (fn:Func) (tmps:Array Value):results fn tmps=(do let vs ←fn.results.mapM (CK tmps);pure (if h:vs.size=1 then vs[0] else .tuple vs)):=by
 unfold results
 congr 1
theorem kW {A:AS} {tmps:Array Value} {r:ResultVar} {y:AV} (hs:HSat cx ι A.box A.used w) (henv:∀t,RepA ι (Mof cx ι A.box) w (tmps.getD t undef) (A.env t)) (hr:ResIs P A r y):∃v,(CK tmps r).run P w= .ok v w∧RepA ι (Mof cx ι A.box) w v y:=by
 cases hr with
 |tmp t=>exact⟨_,rfl,henv t⟩
 | @cell p t ag n b off bx y ha hb hne h1 h2 hx=>
   have hp:=henv p
   rw[ha] at hp
   obtain⟨g,hg,hv⟩:=hp.ptr'
   obtain⟨g',hg',-,-,c,hc,hlen,hcs⟩:=hs.ne hb hne
   rw[hg] at hg'
   injection hg' with hg'
   subst hg'
   obtain⟨v,hr,hvx⟩:=Cw (P:=P) (w:=w) (ι:=ι) (M:=Mof cx ι A.box) (g:=g) h1 h2 hx (c:=c) (fun j hj=>⟨_,Array.getElem?_eq_getElem byOmega⟩) (fun j v hv=>by rw[cell_of_row _ _ _ _ _ _ hc];exact hv) (fun j v y h1 h2=>(hcs j v y h1 h2).2)
   exact⟨v,by simp[CK,hv,asAddr,hr],hvx⟩
inductive Ress (P:Program) (A:AS):Array ResultVar→AV→Prop
 |none:Ress P A #[] (.tup [])
 |one {r:ResultVar} {y:AV} (h:ResIs P A r y):Ress P A #[r] y
 |two {r s:ResultVar} {y z:AV} (h:ResIs P A r y) (h2:ResIs P A s z):Ress P A #[r,s] (.tup [y,z])
 |three {r s t:ResultVar} {y z u:AV} (h:ResIs P A r y) (h2:ResIs P A s z) (h3:ResIs P A t u):Ress P A #[r,s,t] (.tup [y,z,u])
theorem G5 {A:AS} {tmps:Array Value} {fn:Func} {y:AV} (hs:HSat cx ι A.box A.used w) (henv:∀t,RepA ι (Mof cx ι A.box) w (tmps.getD t undef) (A.env t)) (hr:Ress P A fn.results y):∃v,(results fn tmps).run P w= .ok v w∧RepA ι (Mof cx ι A.box) w v y:=by
 rw[GZ]
 generalize fn.results=rs at hr
 cases hr with
 |none=>exact⟨.tuple #[],by simp,.tup rfl ai⟩
 | @one r y h=>
   obtain⟨v,h1,h2⟩:=kW hs henv h
   refine⟨v,?_,h2⟩
   simp[h1]
 | @two r s y z h h'=>
   obtain⟨v,h1,h2⟩:=kW hs henv h
   obtain⟨v',h1',h2'⟩:=kW hs henv h'
   refine⟨.tuple #[v,v'],?_,.tup rfl ?_⟩
   ·simp[h1,h1']
   ·intro i x y hx hy
    rcases i with _|_|i
    ·simp at hx hy;subst hx hy;exact h2
    ·simp at hx hy;subst hx hy;exact h2'
    ·simp at hy
 | @three r s t y z u h h' h''=>
   obtain⟨v,h1,h2⟩:=kW hs henv h
   obtain⟨v',h1',h2'⟩:=kW hs henv h'
   obtain⟨v'',h1'',h2''⟩:=kW hs henv h''
   refine⟨.tuple #[v,v',v''],?_,.tup rfl ?_⟩
   ·simp[h1,h1',h1'']
   ·intro i x y hx hy
    rcases i with _|_|_|i
    ·simp at hx hy;subst hx hy;exact h2
    ·simp at hx hy;subst hx hy;exact h2'
    ·simp at hx hy;subst hx hy;exact h2''
    ·simp at hy
theorem yX {A:AS} {fn:Func} {tmps:Array Value} {R:Ending→World→Prop}:∀(l:List Deferred) (w:World),HSat cx ι A.box A.used w→Marks cx w l→(∀t,RepA ι (Mof cx ι A.box) w (tmps.getD t undef) (A.env t))→
 (∀w',HSat cx ι A.box A.used w'→(∀t,RepA ι (Mof cx ι A.box) w' (tmps.getD t undef) (A.env t))→∃v,(results fn tmps).run P w'= .ok v w'∧R (.returned v) w')→LeavesInM (aT none) 9 P fn tmps R l .returning w
 | [],w,hs,_,he,h=>h w hs he
 |d::l,w,hs,⟨⟨D,hd,hD,hh,hne⟩,hm⟩,he,h=>by
  have ho:∀o,w.heap[D]? =some o→iC o=false:=fun o h=>by rw[hh] at h;injection h with h;subst h;rfl
  refine⟨by simp,.inl ⟨D,_,by rw[hd],run_takeDeferred hh,?_⟩⟩
  refine yX l _ (GL hs hD ho) ?_ (fun t=>(he t).obj ho) h
  have key:∀l:List Deferred,(∀d',d'∈l→d'≠ {target:= .collected D,args:= #[]})→Marks cx w l→Marks cx (w.putObj D (.deferred none)) l:=by
   intro l
   induction l with
   |nil=>intro _ _;trivial
   |cons d l ih=>
    rintro hne ⟨⟨E,h1,h2,h3,h4⟩,h5⟩
    have hE:E≠D:=by rintro rfl;exact hne d ai h1
    exact⟨⟨E,h1,h2,by rw[World.putObj_heap_other hE];exact h3,h4⟩,ih (fun d' h=>hne d' (List.mem_cons_of_mem _ h)) h5⟩
  exact key l hne hm
def Ends (P:Program) (fn:Func) (x:AV):Exit→AS→Prop
 | .normal,A| .ret,A=>∃y fp,Ress P A fn.results y∧(∀b x,(b,x)∈fp→A.box b=some x)∧Frz fp y x
 |_,_=>False
def jK (args:List AV):Nat→AV:=fun t=>args.getD t .any
theorem G6 {f:FuncId} {fn:Func} {c:Code} {args:List AV} {x:AV} (hf:P.funcs[f]? =some fn) (hb:fn.body=some c) (hn:args.length≤fn.ntmps)
 (h:∀cx:Cx,cx.N=fn.ntmps→cx.R=none→cx.F=(fun _=>none)→args.all AV.lens=true→AWp P cx c (Ends P fn x) ⟨jK args,fun _=>none,fun _=>False⟩):Fun P f args x:=by
 intro M w vs hM hsz hvs
 refine qV.1 (callsIn_of_wp_marks (F:=aT none) (n:=9) hf hb trivial ?_ rfl)
 let cx:Cx:=⟨w,fun _=>False,M,fn.ntmps,none,fun _=>none,[]⟩
 have hMof:∀ι g,Mof cx ι (fun _=>none) g→M g:=by
  rintro ι g (h|⟨b,x,h,-⟩)
  ·exact h
  ·cases h
 have hs:Sat cx (fun _=>none) ⟨jK args,fun _=>none,fun _=>False⟩ {tmps:=vs++Array.replicate (fn.ntmps-vs.size) undef,defers:=[]} w:=by
  refine⟨⟨⟨rfl,rfl,rfl,Evo.refl w,Oth.refl w,fun _ _ _=>rfl⟩,hM,(by intro b g h;cases h),(by intro b g h;cases h),(by intro b x h;cases h),(by intro b x h;cases h),(by intro b b' x x' g h;cases h)⟩,?_,⟨[],[],rfl,trivial⟩,?_⟩
  ·show(vs++Array.replicate (fn.ntmps-vs.size) undef).size=fn.ntmps
   simp
   omega
  ·intro t
   show RepA _ _ w ((vs++Array.replicate (fn.ntmps-vs.size) undef).getD t undef) (args.getD t .any)
   by_cases ht:t<args.length
   ·have h1:t<vs.size:=byOmega
    have h2:=hvs t vs[t] args[t] (Array.getElem?_eq_getElem h1) (List.getElem?_eq_getElem ht)
    rw[Array.getD_eq_getD_getElem?,Array.getElem?_append_left h1,Array.getElem?_eq_getElem h1]
    simp only[Option.getD_some]
    rw[show args.getD t .any=args[t] by simp[List.getD,ht]]
    exact .d (h2.keep (fun g _ h=>hMof _ g h) (Nat.le_refl _) fun _ _ _=>rfl)
   ·rw[show args.getD t .any= .any by simp[List.getD,List.getElem?_eq_none (Nat.le_of_not_lt ht)]]
    exact .any _
 refine wpIn_mono (h cx rfl rfl rfl (mH fun i y hy=>(hvs i _ y (Array.getElem?_eq_getElem (by have:=(List.getElem?_eq_some_iff.1 hy).1;omega)) hy).lens) _ _ w hs) ?_
 rintro e a' w' ⟨ι',A',hs',he⟩
 have key:(∃y fp,Ress P A' fn.results y∧(∀b x,(b,x)∈fp→A'.box b=some x)∧Frz fp y x)→LeavesInM (aT none) 9 P fn a'.tmps (fun e w'=>∃v,e= .returned v∧RepD M w' v x∧Below w.heap.size w w') a'.defers .returning w':=by
  rintro⟨y,fp,hr,hfp,hz⟩
  refine yX _ _ hs'.h (hs'.defers.marks rfl) hs'.env fun w1 hs1 henv=> ?_
  obtain⟨v,hrun,hv⟩:=G5 hs1 henv hr
  refine⟨v,hrun,v,rfl,?_,hs1.wi.os,hs1.wi.tape,hs1.wi.output,hs1.wi.evo.size,fun k hk=>hs1.wi.block k hk (fun h=>h)⟩
  exact(tT hs1 hfp hz hv).keep (fun g _ h=> .inl h) (Nat.le_refl _) fun _ _ _=>rfl
 cases e with
 |normal=>exact key he
 |ret=>exact key he
 |_=>exact he.elim
end
end Go.Proofs.YtlikpcpllahalaaGreat.V
