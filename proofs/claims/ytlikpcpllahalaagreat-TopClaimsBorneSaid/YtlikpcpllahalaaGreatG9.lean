/- Parts of the proof. -/
import Derived.Test.YtlikpcpllahalaaGreatG8
set_option linter.unusedSimpArgs false
set_option linter.unusedVariables false
namespace Go.Proofs.YtlikpcpllahalaaGreat.V
open Go.RowKit
set_option maxRecDepth 100000
section
def lives (fp:List (Nat×Bx)):List (Nat×Option Bx):=fp.map fun p=>(p.1,some p.2)
def inl {α:Type} (l:List (Nat×α)) (b:Nat):Bool:=l.any fun p=>p.1==b
def eQ (M0:Nat→Prop) (ι:Nat→Option Nat) (fp:List (Nat×Bx)) (w:World) (n:Nat):Cx:=⟨w,fun g=>∃b,inl fp b=true∧ι b=some g,M0,n,none,fun b=>if inl fp b then ι b else none,[]⟩
def aC (P:Program) (f:FuncId) (fp:List (Nat×Bx)) (args:List AV) (x:AV) (tb:List (Nat×Option Bx)):Prop:=
 ∀(M0:Nat→Prop) (ι:Nat→Option Nat) (w:World) (vs:Array Value),
  HSat (eQ M0 ι fp w 0) ι (ah (lives fp)) (fun b=>inl fp b=true) w→vs.size=args.length→
  (∀(i:Nat) (v:Value) (y:AV),vs[i]? =some v→args[i]? =some y→RepA ι (Mof (eQ M0 ι fp w 0) ι (ah (lives fp))) w v y)→
  Calls P f vs w fun e w'=>∃v ι',e= .returned v∧(∀b,inl fp b=true→ι' b=ι b)∧HSat (eQ M0 ι fp w 0) ι' (ah (tb++lives fp)) (fun b=>inl fp b=true∨inl tb b=true) w'∧Oth w w'∧
   RepA ι' (Mof (eQ M0 ι fp w 0) ι' (ah (tb++lives fp))) w' v x
section
variable {P:Program} {cx:Cx} {ι:Nat→Option Nat} {box:Nat→Option Bx} {used:Nat→Prop} {w:World} {M M':Nat→Prop}
theorem jc {α:Type} {l:List (Nat×α)} {b:Nat}:inl l b=true↔∃x,(b,x)∈l:=by
 simp only[inl,List.any_eq_true,beq_iff_eq]
 constructor
 ·rintro⟨p,h1,rfl⟩;exact⟨p.2,h1⟩
 ·rintro⟨x,h⟩;exact⟨_,h,rfl⟩
theorem CU {fp:List (Nat×Bx)} {b:Nat} {x:Bx} (h:ah (lives fp) b=some x):(b,x)∈fp:=by
 induction fp with
 |nil=>simp[lives,ah,ax] at h
 |cons p l ih=>
  simp only[lives,List.map_cons,ah,ax] at h
  by_cases hb:b=p.1
  ·subst hb;simp at h;subst h;simp
  ·rw[if_neg hb] at h;exact List.mem_cons_of_mem _ (ih h)
theorem xk {fp:List (Nat×Bx)} {b:Nat} (h:inl fp b=true):∃x,ah (lives fp) b=some x:=by
 induction fp with
 |nil=>simp[inl] at h
 |cons p l ih=>
  simp only[lives,List.map_cons,ah,ax]
  by_cases hb:b=p.1
  ·exact⟨p.2,by simp[hb]⟩
  ·rw[if_neg hb]
   refine ih ?_
   simp only[inl,List.any_cons,Bool.or_eq_true,beq_iff_eq] at h
   exact h.resolve_left fun e=>hb e.symm
theorem ry {l m:ay} {b:Nat}:ah (l++m) b=if inl l b=true then ah l b else ah m b:=by
 induction l with
 |nil=>simp[inl]
 |cons p l ih=>
  simp only[List.cons_append,ah,ax,inl,List.any_cons]
  by_cases hb:b=p.1
  ·simp[hb]
  ·have:(p.1==b)=false:=by simpa using fun e=>hb e.symm
   simp only[hb,if_false,this,Bool.false_or]
   exact ih
theorem zg {r:Nat→Nat} {vs:Array Value} {l:List AV} (hn:vs.size=l.length) (ih:∀(i:Nat) (x:Value) (y:AV),vs[i]? =some x→l[i]? =some y→y.ren r=y):l.map (AV.ren r)=l:=by
 apply List.ext_getElem?
 intro i
 rw[List.getElem?_map]
 cases hl:l[i]? with
 |none=>rfl
 |some y=>
  have hlt:=(List.getElem?_eq_some_iff.1 hl).1
  simp[ih i _ y (Array.getElem?_eq_getElem byOmega) hl]
theorem RepD.ren_eq {r:Nat→Nat} {v:Value} {a:AV} (h:RepD M w v a):a.ren r=a:=by
 induction h with
 |v=>simp
 |sl=>simp
 |pp=>simp
 |mp=>simp
 |agg hn h ih=>rw[vU,zg hn ih]
 |tup hn h ih=>rw[vV,zg hn ih]
 |fn hf hc _ _ ih1 ih2=>rw[vW,zg hf ih1,zg hc ih2]
theorem RepA.turn {ι':Nat→Option Nat} {r:Nat→Nat} {p:Nat→Bool} (hι:∀b g,p b=true→ι b=some g→ι' (r b)=some g) (hM:∀g,M' g→M g) {v:Value} {a:AV} (h:RepA ι M w v a):a.names p=true→RepA ι' M' w v (a.ren r):=by
 induction h with
 | @d v a h=>
   intro _
   rw[h.ren_eq]
   exact(RepA.d h).less hM
 |any v=>intro _;rw[F9];exact .any v
 |ptr h=>intro hp;rw[Gb];exact .ptr (hι _ _ (by simpa using hp) h)
 |osl h h1 h2 h3 h4=>intro hp;rw[Cs];exact .osl (hι _ _ (by simpa using hp) h) h1 h2 h3 h4
 |osl0 A b k o=>intro _;rw[Cs];exact .osl0 A _ _ _
 |fn hf hc _ _ ih1 ih2=>
  intro hp
  rw[vY,Bool.and_eq_true,List.all_eq_true,List.all_eq_true] at hp
  rw[vW]
  refine .fn (by simpa using hf) (by simpa using hc) (fun i x y hx hy=> ?_) (fun i x y hx hy=> ?_)
  ·rw[List.getElem?_map,Option.map_eq_some_iff] at hy
   obtain⟨z,hz,rfl⟩:=hy
   exact ih1 i x z hx hz (hp.1 _ (List.mem_of_getElem? hz))
  ·rw[List.getElem?_map,Option.map_eq_some_iff] at hy
   obtain⟨z,hz,rfl⟩:=hy
   exact ih2 i x z hx hz (hp.2 _ (List.mem_of_getElem? hz))
 |agg hn _ ih=>
  intro hp
  rw[vX,List.all_eq_true] at hp
  rw[vU]
  refine .agg (by simpa using hn) fun i x y hx hy=> ?_
  rw[List.getElem?_map,Option.map_eq_some_iff] at hy
  obtain⟨z,hz,rfl⟩:=hy
  exact ih i x z hx hz (hp _ (List.mem_of_getElem? hz))
 |tup hn _ ih=>
  intro hp
  rw[qU,List.all_eq_true] at hp
  rw[vV]
  refine .tup (by simpa using hn) fun i x y hx hy=> ?_
  rw[List.getElem?_map,Option.map_eq_some_iff] at hy
  obtain⟨z,hz,rfl⟩:=hy
  exact ih i x z hx hz (hp _ (List.mem_of_getElem? hz))
 |iface _ ih=>intro hp;rw[yL] at hp;rw[Ct];exact .iface (ih hp)
 |iffT _ ih=>intro hp;rw[yK] at hp;rw[yJ];exact .iffT (ih hp)
 |iffF a=>intro _;rw[yJ];exact .iffF _
 |bit h=>intro _;rw[NM];exact .bit h
def Bx.ren (r:Nat→Nat) (x:Bx):Bx:=⟨x.t,x.cs.map (AV.ren r)⟩
def kZ (r:Nat→Nat) (fp:List (Nat×Bx)):List (Nat×Bx):=fp.map fun p=>(r p.1,p.2.ren r)
def fD (r:Nat→Nat) (tb:List (Nat×Option Bx)):List (Nat×Option Bx):=tb.map fun p=>(r p.1,p.2.map (Bx.ren r))
def Bx.okN (p:Nat→Bool) (x:Bx):Bool:=x.cs.all (AV.names p)
def okF (fp:List (Nat×Bx)):Bool:=fp.all fun p=>p.2.okN (inl fp)
def lg (fp:List (Nat×Bx)) (tb:List (Nat×Option Bx)):Bool:=tb.all fun p=>match p.2 with|some x=>x.okN (fun b=>inl fp b||inl tb b)|none=>inl fp p.1
def mJ (r:Nat→Nat) (l:List Nat):Bool:=l.all fun b=>l.all fun c=>r b != r c||b==c
def lY (fp:List (Nat×Bx)):List Nat:=fp.map (·.1)
def lh (tb:List (Nat×Option Bx)):List Nat:=tb.map (·.1)
theorem xm {r:Nat→Nat} {l:List Nat} (h:mJ r l=true) {b c:Nat} (hb:b∈l) (hc:c∈l) (he:r b=r c):b=c:=by
 have h1:=List.all_eq_true.1 (List.all_eq_true.1 h b hb) c hc
 simp only[Bool.or_eq_true,bne_iff_ne,beq_iff_eq] at h1
 exact h1.resolve_left fun h=>h he
theorem Pz {fp:List (Nat×Bx)} {b:Nat}:b∈lY fp↔inl fp b=true:=by simp[lY,jc]
theorem Hq {tb:List (Nat×Option Bx)} {b:Nat}:b∈lh tb↔inl tb b=true:=by simp[lh,jc]
theorem Hr {r:Nat→Nat} {b:Nat} {l:List Nat} (hj:mJ r l=true) (hb:b∈l):∀ {tb:List (Nat×Option Bx)},(∀c,inl tb c=true→c∈l)→inl tb b=true→ax box (fD r tb) (r b)=(ah tb b).map (Bx.ren r)
 | [],_,h=>by simp[inl] at h
 |p::tb,hl,h=>by
  simp only[fD,List.map_cons,ax,ah]
  by_cases hbp:b=p.1
  ·subst hbp;simp
  ·have hne:r b≠r p.1:=fun e=>hbp (xm hj hb (hl p.1 (by simp[inl])) e)
   rw[if_neg hne,if_neg hbp]
   have h':inl tb b=true:=by
    simp only[inl,List.any_cons,Bool.or_eq_true,beq_iff_eq] at h
    exact h.resolve_left fun e=>hbp e.symm
   exact Hr hj hb (tb:=tb) (fun c hc=>hl c (by simp only[inl,List.any_cons,Bool.or_eq_true];exact .inr hc)) h'
theorem PD {r:Nat→Nat} {c:Nat} {tb:List (Nat×Option Bx)} (h:∀b,inl tb b=true→c≠r b):ax box (fD r tb) c=box c:=by
 refine nT fun x hx=> ?_
 simp only[fD,List.mem_map] at hx
 obtain⟨p,hp,he⟩:=hx
 injection he with h1 _
 exact h p.1 (jc.2 ⟨p.2,hp⟩) h1.symm
def ug (r:Nat→Nat) (l:List Nat) (c:Nat):Option Nat:=l.find? fun b=>r b==c
theorem Ht {r:Nat→Nat} {l:List Nat} {b c:Nat} (h:ug r l c=some b):b∈l∧r b=c:=by
 have h1:=List.mem_of_find?_eq_some h
 have h2:=List.find?_some h
 exact⟨h1,by simpa using h2⟩
theorem PE {r:Nat→Nat} {l m:List Nat} (hj:mJ r m=true) (hlm:∀b,b∈l→b∈m) {b:Nat} (h:b∈l):ug r l (r b)=some b:=by
 cases hf:ug r l (r b) with
 |none=>
  unfold ug at hf
  rw[List.find?_eq_none] at hf
  have:=hf b h
  simp at this
 |some c=>
  obtain⟨h1,h2⟩:=Ht hf
  rw[xm hj (hlm c h1) (hlm b h) h2]
theorem pK {p q:Nat→Bool} (h:∀b,p b=true→q b=true):∀ {x:AV},x.names p=true→x.names q=true
 | .v _,_=>by simp
 | .sl ..,_=>by simp
 | .any,_=>by simp
 | .mp ..,_=>by simp
 | .bit _,_=>by simp
 | .pp _,_=>by simp
 | .ptr b o,hx=>by rw[Gg] at hx ⊢;exact h _ hx
 | .osl b k o n,hx=>by rw[Gh] at hx ⊢;exact h _ hx
 | .fn f l m,hx=>by
   rw[vY,Bool.and_eq_true,List.all_eq_true,List.all_eq_true] at hx ⊢
   exact⟨fun y hy=>pK h (hx.1 y hy),fun y hy=>pK h (hx.2 y hy)⟩
 | .agg l,hx=>by
   rw[vX,List.all_eq_true] at hx ⊢
   exact fun y hy=>pK h (hx y hy)
 | .tup l,hx=>by
   rw[qU,List.all_eq_true] at hx ⊢
   exact fun y hy=>pK h (hx y hy)
 | .iface t x,hx=>by rw[yL] at hx ⊢;exact pK h hx
 | .iff c x,hx=>by rw[yK] at hx ⊢;exact pK h hx
def CV (r:Nat→Nat) (news:List Nat) (ι ι1:Nat→Option Nat) (c:Nat):Option Nat:=match ug r news c with|some b=>ι1 b|none=>ι c
theorem Hu {o:Oper} {ρ:Operand→AV} {f:FuncId} {l args:List AV} {fp:List (Nat×Bx)} {tb:List (Nat×Option Bx)} {x:AV} (r:Nat→Nat) (ho:Enters P o ρ f l) (hc:bn P f) (hF:aC P f fp args x tb)
 (hl:l=args.map (AV.ren r)) (hn:args.all (AV.names (inl fp))=true) (hof:okF fp=true) (hot:lg fp tb=true) (hx:x.names (fun b=>inl fp b||inl tb b)=true) (hj:mJ r (lY fp++lh tb)=true):
 Yields P cx o ρ ⟨kZ r fp,x.ren r,fD r tb⟩:=by
 intro ι box used a w hh _ hfp hfr hops K Q hK
 obtain⟨vs,hex,hsz,hvs⟩:=ho hc ι _ a w hops
 have hin:∀b,inl fp b=true→b∈lY fp++lh tb:=fun b h=>List.mem_append_left _ (Pz.2 h)
 have hint:∀b,inl tb b=true→b∈lY fp++lh tb:=fun b h=>List.mem_append_right _ (Hq.2 h)
 have hbox:∀b y,ah (lives fp) b=some y→box (r b)=some (y.ren r)∧y.okN (inl fp)=true∧inl fp b=true:=fun b y h=>by
  have h1:=CU h
  refine⟨hfp _ _ (by simp only[kZ,List.mem_map];exact⟨_,h1,rfl⟩),?_,jc.2 ⟨_,h1⟩⟩
  exact List.all_eq_true.1 hof _ h1
 let ι1:=eB (inl fp) r ι
 let M0:Nat→Prop:=fun g=>Mof cx ι box g∧¬∃b,inl fp b=true∧ι1 b=some g
 let cB:=eQ M0 ι1 fp w 0
 have hι1:∀b g,ι1 b=some g→inl fp b=true∧ι (r b)=some g:=fun b g h=>by
  simp only[ι1,eB] at h
  split at h
  ·rename_i hb;exact⟨hb,h⟩
  ·cases h
 have hι1':∀b g,inl fp b=true→ι (r b)=some g→ι1 b=some g:=fun b g hb h=>by simp[ι1,eB,hb,h]
 have hM1:∀g,Mof cB ι1 (ah (lives fp)) g→Mof cx ι box g:=by
  rintro g (h|⟨b,y,h1,h2⟩)
  ·exact h.1
  ·exact .inr ⟨r b,_,(hbox b y h1).1,(hι1 b g h2).2⟩
 have hG:∀g,cB.G g→∃b y,inl fp b=true∧ι1 b=some g∧ah (lives fp) b=some y:=by
  rintro g ⟨b,h1,h2⟩
  obtain⟨y,hy⟩:=xk h1
  exact⟨b,y,h1,h2,hy⟩
 have hown:∀b y g,ah (lives fp) b=some y→ι1 b=some g→(cx.base≤g∨cx.G g)∧¬cx.M0 g:=fun b y g h1 h2=>by
  rcases hh.own _ _ (hbox b y h1).1 with⟨-,h⟩|⟨g',e1,e2,e3,-⟩
  ·rw[(hι1 b g h2).2] at h;cases h
  ·rw[(hι1 b g h2).2] at e1;injection e1 with e1;subst e1;exact⟨e2,e3⟩
 have hGM:∀g,cB.G g→Mof cx ι box g∧(cx.base≤g∨cx.G g)∧¬cx.M0 g:=fun g h=>by
  obtain⟨b,y,h1,h2,h3⟩:=hG g h
  exact⟨.inr ⟨r b,_,(hbox b y h3).1,(hι1 b g h2).2⟩,hown b y g h3 h2⟩
 have hB:HSat cB ι1 (ah (lives fp)) (fun b=>inl fp b=true) w:=by
  refine⟨⟨rfl,rfl,rfl,Evo.refl w,Oth.refl w,fun _ _ _=>rfl⟩,fun g h=>wB hh h.1,fun b g h=>(by simp only[cB,eQ] at h;split at h<;>first|exact h|cases h),fun b g h=>⟨(hι1 b g h).1,(hh.dom _ g (hι1 b g h).2).2⟩,fun b y h=>(hbox b y h).2.2,fun b y h=> ?_,fun b b' y y' g h1 h2 h3 h4=> ?_⟩
  ·obtain⟨h1,h2,h3⟩:=hbox b y h
   rcases hh.own _ _ h1 with⟨e1,e2⟩|⟨g,e1,e2,e3,c,e4,e5,e6⟩
   ·exact .inl ⟨by simpa[Bx.ren] using e1,by simp[ι1,eB,e2]⟩
   ·refine .inr ⟨g,hι1' b g h3 e1,.inr ⟨b,h3,hι1' b g h3 e1⟩,fun h=>h.2 ⟨b,h3,hι1' b g h3 e1⟩,c,e4,by simpa[Bx.ren] using e5,fun j v z hv hz=> ?_⟩
    have:=e6 j v (z.ren r) hv (by simp[Bx.ren,hz])
    refine⟨this.1,(this.2.cut rfl (List.all_eq_true.1 h2 z (List.mem_of_getElem? hz))).less hM1⟩
  ·obtain⟨e1,e2,e3⟩:=hbox b y h1
   obtain⟨f1,f2,f3⟩:=hbox b' y' h2
   exact xm hj (hin b e3) (hin b' f3) (hh.inj _ _ _ _ g e1 f1 (hι1 b g h3).2 (hι1 b' g h4).2)
 have hcall:=hF M0 ι1 w vs hB (by rw[hsz,hl];simp) fun i v y hv hy=>by
  have h1:=hvs i v (y.ren r) hv (by rw[hl];simp[hy])
  exact(h1.cut rfl (List.all_eq_true.1 hn y (List.mem_of_getElem? hy))).less hM1
 unfold Oper.wp
 rw[hex,Oper.upon_enter]
 refine hcall.mono ?_
 rintro e w' ⟨v,ι2,rfl,hext,hs2,hoth,hv⟩
 let news:=(lh tb).filter fun b=> !inl fp b
 have hnews:∀b,b∈news↔inl tb b=true∧inl fp b=false:=fun b=>by simp[news,List.mem_filter,Hq]
 let ι3:=CV r news ι ι2
 have hι3n:∀b,inl tb b=true→inl fp b=false→ι3 (r b)=ι2 b:=fun b h1 h2=>by
  have:=PE (l:=news) hj (fun c hc=>hint c ((hnews c).1 hc).1) ((hnews b).2 ⟨h1,h2⟩)
  simp[ι3,CV,this]
 have hι3o:∀c,(∀b,inl tb b=true→inl fp b=false→c≠r b)→ι3 c=ι c:=fun c h=>by
  cases hb:ug r news c with
  |none=>simp[ι3,CV,hb]
  |some b=>
   obtain⟨h1,h2⟩:=Ht hb
   obtain⟨h3,h4⟩:=(hnews b).1 h1
   exact absurd h2.symm (h b h3 h4)
 have hι3f:∀b,inl fp b=true→ι3 (r b)=ι (r b):=fun b h=>hι3o _ fun b' h1 h2 e=>by
  have:=xm hj (hin b h) (hint b' h1) e
  subst this;rw[h] at h2;cases h2
 have hι2f:∀b,inl fp b=true→ι2 b=ι (r b):=fun b h=>by rw[hext b h];simp[ι1,eB,h]
 have hnm:∀b,inl tb b=true→inl fp b=false→¬used (r b):=fun b h1 h2=>by
  obtain⟨z,hz⟩:=jc.1 h1
  have h3:=List.all_eq_true.1 hot _ hz
  cases z with
  |none=>simp only at h3;rw[h2] at h3;cases h3
  |some z=>
   rcases hfr (r b) (z.ren r) (by simp only[fD,List.mem_map];exact⟨_,hz,rfl⟩) with⟨y,hy⟩|h
   ·exfalso
    simp only[kZ,List.mem_map] at hy
    obtain⟨q,hq,he⟩:=hy
    injection he with he _
    have hq':inl fp q.1=true:=jc.2 ⟨q.2,hq⟩
    have:=xm hj (hin q.1 hq') (hint b h1) he
    rw[this] at hq';rw[hq'] at h2;cases h2
   ·exact h
 have hTd:∀c,(∃b,inl tb b=true∧c=r b)∨∀b,inl tb b=true→c≠r b:=fun c=>by
  by_cases h:∃b,inl tb b=true∧c=r b
  ·exact .inl h
  ·exact .inr fun b h1 h2=>h ⟨b,h1,h2⟩
 have cls:∀c z,ax box (fD r tb) c=some z→(∃b y,c=r b∧z=y.ren r∧ah (tb++lives fp) b=some y∧ι3 c=ι2 b∧y.okN (fun b=>inl fp b||inl tb b)=true∧(inl fp b=true∨inl tb b=true))∨(box c=some z∧ι3 c=ι c∧∀b,inl fp b=true→c≠r b):=by
  intro c z h
  have hi3:∀b,inl fp b=true∨inl tb b=true→ι3 (r b)=ι2 b:=fun b hb=>by
   by_cases hf:inl fp b=true
   ·rw[hι3f b hf,hι2f b hf]
   ·exact hι3n b (hb.resolve_left hf) (by simpa using hf)
  rcases hTd c with⟨b,hb,rfl⟩|hno
  ·rw[Hr hj (hint b hb) hint hb] at h
   obtain⟨y,hy,rfl⟩:=Option.map_eq_some_iff.1 h
   refine .inl ⟨b,y,rfl,rfl,by rw[ry,if_pos hb];exact hy,hi3 b (.inr hb),?_,.inr hb⟩
   obtain⟨r',hr'⟩:=rq hy
   have key:∀l:ay,ah l b=some y→(b,some y)∈l:=by
    intro l
    induction l with
    |nil=>intro h;simp[ah,ax] at h
    |cons p l ih=>
     intro h
     simp only[ah,ax] at h
     by_cases hbp:b=p.1
     ·subst hbp;simp at h;rw[←h];simp
     ·rw[if_neg hbp] at h;exact List.mem_cons_of_mem _ (ih h)
   exact List.all_eq_true.1 hot _ (key tb hy)
  ·rw[PD hno] at h
   by_cases hf:∃b,inl fp b=true∧c=r b
   ·obtain⟨b,hb,rfl⟩:=hf
    obtain⟨y,hy⟩:=xk hb
    obtain⟨h1,h2,h3⟩:=hbox b y hy
    rw[h1] at h
    injection h with h
    have hnt:inl tb b≠true:=fun h=>hno b h rfl
    refine .inl ⟨b,y,rfl,h.symm,by rw[ry,if_neg hnt];exact hy,hi3 b (.inl hb),?_,.inl hb⟩
    refine List.all_eq_true.2 fun q hq=> ?_
    have h4:=List.all_eq_true.1 h2 q hq
    exact pK (fun b hb=>by simp[hb]) h4
   ·refine .inr ⟨h,hι3o c fun b h1 _ e=>hno b h1 e,fun b h1 h2=>hf ⟨b,h1,h2⟩⟩
 have hM3:∀g,Mof cx ι3 (ax box (fD r tb)) g→Mof cB ι2 (ah (tb++lives fp)) g:=by
  rintro g (h|⟨c,z,h1,h2⟩)
  ·exact .inl ⟨.inl h,fun⟨b,e1,e2⟩=>(hGM g ⟨b,e1,e2⟩).2.2 h⟩
  ·rcases cls c z h1 with⟨b,y,rfl,rfl,e1,e2,e3,e4⟩|⟨e1,e2,e3⟩
   ·exact .inr ⟨b,y,e1,by rw[←e2];exact h2⟩
   ·rw[e2] at h2
    refine .inl ⟨.inr ⟨c,z,e1,h2⟩,fun⟨b,f1,f2⟩=> ?_⟩
    obtain⟨y,hy⟩:=xk f1
    exact e3 b f1 (hh.inj c (r b) _ _ g e1 (hbox b y hy).1 h2 (hι1 b g f2).2)
 have hkeepT:∀v y,y.names (fun b=>inl fp b||inl tb b)=true→RepA ι2 (Mof cB ι2 (ah (tb++lives fp))) w' v y→RepA ι3 (Mof cx ι3 (ax box (fD r tb))) w' v (y.ren r):=fun v y hy h=>by
  refine h.turn (p:=fun b=>inl fp b||inl tb b) (fun b g hb h=> ?_) hM3 hy
  simp only[Bool.or_eq_true] at hb
  by_cases hf:inl fp b=true
  ·rw[hι3f b hf,←hι2f b hf];exact h
  ·rw[hι3n b (hb.resolve_left hf) (by simpa using hf)];exact h
 have hsame:∀g,g<w.heap.size→¬cB.G g→w'.heap[g]? =w.heap[g]? :=fun g h1 h2=>hs2.wi.block g h1 h2
 have hM3':∀g,g<w.heap.size→Mof cx ι3 (ax box (fD r tb)) g→Mof cx ι box g:=by
  rintro g hg h
  rcases hM3 g h with h|⟨b,y,h1,h2⟩
  ·exact h.1
  ·rcases hs2.own b y h1 with⟨-,e⟩|⟨g',e1,e2,-⟩
   ·rw[h2] at e;cases e
   ·rw[h2] at e1;injection e1 with e1;subst e1
    rcases e2 with e2|e2
    ·have:w.heap.size≤g:=e2
     omega
    ·exact(hGM g e2).1
 have hnone:∀b,inl tb b=true→inl fp b=false→ι (r b)=none:=fun b h1 h2=>by
  cases h:ι (r b) with
  |none=>rfl
  |some g=>exact absurd (hh.dom _ g h).1 (hnm b h1 h2)
 have hιk:∀c g,ι c=some g→ι3 c=some g:=fun c g h=>by
  rw[hι3o c fun b h1 h2 e=>by rw[e,hnone b h1 h2] at h;cases h];exact h
 have hkeep:∀v y,RepA ι (Mof cx ι box) w v y→RepA ι3 (Mof cx ι3 (ax box (fD r tb))) w' v y:=fun v y h=>
  h.keep hιk hM3' hs2.wi.evo fun g h1 h2=>hsame g h1 fun hg=>h2 (hGM g hg).1
 refine hK v ι3 w' ⟨⟨⟨hs2.wi.os.trans hh.wi.os,hs2.wi.tape.trans hh.wi.tape,hs2.wi.output.trans hh.wi.output,hh.wi.evo.trans hs2.wi.evo,hh.wi.oth.trans hoth,fun k hk hG=> ?_⟩,hh.m0,fun b g h=>hιk b g (hh.fix b g h),fun c g hc=> ?_,fun c z hz=> ?_,fun c z hz=> ?_,fun c c' z z' g h1 h2 h3 h4=> ?_⟩,hkeep,hoth⟩ (hkeepT v x hx hv)
 ·have h1:=hh.wi.evo.size
  rw[hsame k (Nat.lt_of_lt_of_le hk h1) fun hg=> ?_]
  ·exact hh.wi.block k hk hG
  ·rcases(hGM k hg).2.1 with h|h
   ·omega
   ·exact hG h
 ·have h1:w.heap.size≤w'.heap.size:=hs2.wi.evo.size
  by_cases hb:∃b,inl tb b=true∧inl fp b=false∧c=r b
  ·obtain⟨b,e1,e2,rfl⟩:=hb
   rw[hι3n b e1 e2] at hc
   exact⟨.inr (by obtain⟨z,hz⟩:=jc.1 e1;exact⟨z.map (Bx.ren r),by simp only[fD,List.mem_map];exact⟨_,hz,rfl⟩⟩),(hs2.dom b g hc).2⟩
  ·rw[hι3o c fun b e1 e2 e=>hb ⟨b,e1,e2,e⟩] at hc
   exact⟨.inl (hh.dom c g hc).1,Nat.lt_of_lt_of_le (hh.dom c g hc).2 h1⟩
 ·rcases cls c z hz with⟨b,y,rfl,rfl,e1,e2,e3,e4⟩|⟨e1,e2,e3⟩
  ·by_cases ht:inl tb b=true
   ·exact .inr (by obtain⟨z,hz⟩:=jc.1 ht;exact⟨z.map (Bx.ren r),by simp only[fD,List.mem_map];exact⟨_,hz,rfl⟩⟩)
   ·have hf:=e4.resolve_right ht
    obtain⟨y',hy'⟩:=xk hf
    exact .inl (hh.ub _ _ (hbox b y' hy').1)
  ·exact .inl (hh.ub _ _ e1)
 ·rcases cls c z hz with⟨b,y,rfl,rfl,e1,e2,e3,e4⟩|⟨e1,e2,e3⟩
  ·rcases hs2.own b y e1 with⟨f1,f2⟩|⟨g,f1,f2,f3,d,f4,f5,f6⟩
   ·exact .inl ⟨by simp[Bx.ren,f1],by rw[e2,f2]⟩
   ·refine .inr ⟨g,by rw[e2];exact f1,?_,?_,d,f4,by simpa[Bx.ren] using f5,fun j u q hu hq=> ?_⟩
    ·rcases f2 with f2|f2
     ·have h1:=hh.wi.evo.size
      have:w.heap.size≤g:=f2
      exact .inl (by simp only[Cx.base] at h1 ⊢;omega)
     ·exact(hGM g f2).2.1
    ·intro hm
     rcases f2 with f2|f2
     ·have h1:=hh.wi.evo.size
      have h2:=hh.m0 g hm
      have:w.heap.size≤g:=f2
      simp only[Cx.base] at h2
      omega
     ·exact(hGM g f2).2.2 hm
    ·simp only[Bx.ren,List.getElem?_map,Option.map_eq_some_iff] at hq
     obtain⟨q',hq',rfl⟩:=hq
     have:=f6 j u q' hu hq'
     exact⟨this.1,hkeepT u q' (List.all_eq_true.1 e3 q' (List.mem_of_getElem? hq')) this.2⟩
  ·rcases hh.own c z e1 with⟨f1,f2⟩|⟨g,f1,f2,f3,d,f4,f5,f6⟩
   ·exact .inl ⟨f1,by rw[e2,f2]⟩
   ·refine .inr ⟨g,by rw[e2];exact f1,f2,f3,d,?_,f5,fun j u q hu hq=>⟨(f6 j u q hu hq).1,hkeep _ _ (f6 j u q hu hq).2⟩⟩
    rw[hsame g (hh.dom c g f1).2 fun hg=> ?_]
    ·exact f4
    ·obtain⟨b,y,g1,g2,g3⟩:=hG g hg
     exact e3 b g1 (hh.inj c (r b) _ _ g e1 (hbox b y g3).1 f1 (hι1 b g g2).2)
 ·have two:∀(c c':Nat) (z z':Bx) (b:Nat) (y:Bx),c=r b→ah (tb++lives fp) b=some y→ι3 c=ι2 b→box c'=some z'→ι3 c'=ι c'→(∀b,inl fp b=true→c'≠r b)→ι3 c=some g→ι3 c'=some g→False:=by
   intro c c' z z' b y hcb e1 e2 f1 f2 f3 h3 h4
   rw[f2] at h4
   rw[e2] at h3
   have hg:=(hh.dom c' g h4).2
   rcases hs2.own b y e1 with⟨-,e⟩|⟨g',k1,k2,-⟩
   ·rw[h3] at e;cases e
   ·rw[h3] at k1;injection k1 with k1;subst k1
    rcases k2 with k2|k2
    ·have:w.heap.size≤g:=k2
     omega
    ·obtain⟨d,y',g1,g2,g3⟩:=hG g k2
     exact f3 d g1 (hh.inj c' (r d) _ _ g f1 (hbox d y' g3).1 h4 (hι1 d g g2).2)
  rcases cls c z h1 with⟨b,y,hcb,hzy,e1,e2,e3,e4⟩|⟨e1,e2,e3⟩<;>rcases cls c' z' h2 with⟨b',y',hcb',hzy',f1,f2,f3,f4⟩|⟨f1,f2,f3⟩
  ·rw[hcb,hcb',hs2.inj b b' y y' g e1 f1 (by rw[←e2];exact h3) (by rw[←f2];exact h4)]
  ·exact(two c c' z z' b y hcb e1 e2 f1 f2 f3 h3 h4).elim
  ·exact(two c' c z' z b' y' hcb' f1 f2 e1 e2 e3 h4 h3).elim
  ·rw[e2] at h3;rw[f2] at h4;exact hh.inj c c' z z' g e1 f1 h3 h4
def pM (fp:List (Nat×Bx)) (y x:AV):Prop:=y=x∨Frz fp y x
inductive RessB (P:Program) (A:AS) (fp:List (Nat×Bx)):Array ResultVar→AV→Prop
 |none:RessB P A fp #[] (.tup [])
 |one {r:ResultVar} {y x:AV} (h:ResIs P A r y) (hx:pM fp y x):RessB P A fp #[r] x
 |two {r s:ResultVar} {y z x x':AV} (h:ResIs P A r y) (h2:ResIs P A s z) (hx:pM fp y x) (hx2:pM fp z x'):RessB P A fp #[r,s] (.tup [x,x'])
 |three {r s t:ResultVar} {y z u x x' x'':AV} (h:ResIs P A r y) (h2:ResIs P A s z) (h3:ResIs P A t u) (hx:pM fp y x) (hx2:pM fp z x') (hx3:pM fp u x''):RessB P A fp #[r,s,t] (.tup [x,x',x''])
theorem pO:∀(x:AV),x.ren id=x
 | .v _=>by simp
 | .sl .. =>by simp
 | .any=>by simp
 | .mp .. =>by simp
 | .bit _=>by simp
 | .pp _=>by simp
 | .ptr b o=>by simp
 | .osl b k o n=>by simp
 | .fn f l m=>by
   rw[vW]
   have h1:l.map (AV.ren id)=l:=by rw[List.map_congr_left fun x hx=>pO x];simp
   have h2:m.map (AV.ren id)=m:=by rw[List.map_congr_left fun x hx=>pO x];simp
   rw[h1,h2]
 | .agg l=>by
   rw[vU]
   have h1:l.map (AV.ren id)=l:=by rw[List.map_congr_left fun x hx=>pO x];simp
   rw[h1]
 | .tup l=>by
   rw[vV]
   have h1:l.map (AV.ren id)=l:=by rw[List.map_congr_left fun x hx=>pO x];simp
   rw[h1]
 | .iface t x=>by rw[Ct,pO x]
 | .iff c x=>by rw[yJ,pO x]
def PG (P:Program) (fn:Func) (fp:List (Nat×Bx)) (x:AV) (tb:List (Nat×Option Bx)):Exit→AS→Prop
 | .normal,A| .ret,A=>∃fz,RessB P A fz fn.results x∧(∀b x,(b,x)∈fz→A.box b=some x∧inl (tb++lives fp) b=false)∧(∀b y,ah (tb++lives fp) b=some y→A.box b=some y)∧lg fp tb=true∧x.names (fun b=>inl fp b||inl tb b)=true
 |_,_=>False
theorem Hw {f:FuncId} {fn:Func} {c:Code} {fp:List (Nat×Bx)} {args:List AV} {x:AV} {tb:List (Nat×Option Bx)} (hf:P.funcs[f]? =some fn) (hb:fn.body=some c) (hn:args.length≤fn.ntmps) (hne:fp.all (fun p=> !p.2.cs.isEmpty)=true) (hof:okF fp=true) (n:Nat) (hnm:fp.all (fun p=>decide (p.1<n))=true)
 (h:∀cx:Cx,cx.N=fn.ntmps→cx.R=none→(∀b g,cx.F b=some g→inl fp b=true)→(args.all AV.lens=true∧∀b x,ah (lives fp) b=some x→x.cs.all AV.lens=true)→AWp P cx c (PG P fn fp x tb) ⟨jK args,ah (lives fp),fun b=>b<n⟩):aC P f fp args x tb:=by
 intro M0 ι w vs hH hsz hvs
 refine qV.1 (callsIn_of_wp_marks (F:=aT none) (n:=9) hf hb trivial ?_ rfl)
 let cx:Cx:=eQ M0 ι fp w fn.ntmps
 have hMe:∀(ι':Nat→Option Nat) (bx:Nat→Option Bx) g,Mof cx ι' bx g↔Mof (eQ M0 ι fp w 0) ι' bx g:=fun _ _ _=>Iff.rfl
 have hH':HSat cx ι (ah (lives fp)) (fun b=>b<n) w:=by
  have h1:HSat cx ι (ah (lives fp)) (fun b=>inl fp b=true) w:=⟨⟨hH.wi.os,hH.wi.tape,hH.wi.output,hH.wi.evo,hH.wi.oth,hH.wi.block⟩,hH.m0,hH.fix,hH.dom,hH.ub,hH.own,hH.inj⟩
  exact h1.used_mono fun b hb=>by
   obtain⟨x,hx⟩:=jc.1 hb
   simpa using List.all_eq_true.1 hnm _ hx
 have hs:Sat cx ι ⟨jK args,ah (lives fp),fun b=>b<n⟩ {tmps:=vs++Array.replicate (fn.ntmps-vs.size) undef,defers:=[]} w:=by
  refine⟨hH',?_,⟨[],[],rfl,trivial⟩,?_⟩
  ·show(vs++Array.replicate (fn.ntmps-vs.size) undef).size=fn.ntmps
   simp
   omega
  ·intro t
   show RepA _ _ w ((vs++Array.replicate (fn.ntmps-vs.size) undef).getD t undef) (args.getD t .any)
   by_cases ht:t<args.length
   ·have h1:t<vs.size:=byOmega
    have h2:=hvs t vs[t] args[t] (Array.getElem?_eq_getElem h1) (List.getElem?_eq_getElem ht)
    rw[Array.getD_eq_getD_getElem?,Array.getElem?_append_left h1,Array.getElem?_eq_getElem h1]
    simp only[Option.getD_some]
    rw[show args.getD t .any=args[t] by simp[List.getD,ht]]
    exact h2
   ·rw[show args.getD t .any= .any by simp[List.getD,List.getElem?_eq_none (Nat.le_of_not_lt ht)]]
    exact .any _
 have hlen:(args.all AV.lens=true∧∀b x,ah (lives fp) b=some x→x.cs.all AV.lens=true):=by
  refine⟨mH fun i y hy=>(hvs i _ y (Array.getElem?_eq_getElem (by have:=(List.getElem?_eq_some_iff.1 hy).1;omega)) hy).lens,?_⟩
  intro b x hx
  refine mH fun i y hy=> ?_
  have hne':x.cs≠ []:=by rintro e;rw[e] at hy;simp at hy
  obtain⟨g,-,-,-,c,-,hlc,hcc⟩:=hH'.ne hx hne'
  have hlt:=(List.getElem?_eq_some_iff.1 hy).1
  exact(hcc i _ y (Array.getElem?_eq_getElem byOmega) hy).2.lens
 refine wpIn_mono (h cx rfl rfl (fun b g hb=>by simp only[cx,eQ] at hb;split at hb<;>first|assumption|cases hb) hlen _ _ w hs) ?_
 rintro e a' w' ⟨ι',A',hs',he⟩
 have key:(∃fz,RessB P A' fz fn.results x∧(∀b x,(b,x)∈fz→A'.box b=some x∧inl (tb++lives fp) b=false)∧(∀b y,ah (tb++lives fp) b=some y→A'.box b=some y)∧lg fp tb=true∧x.names (fun b=>inl fp b||inl tb b)=true)→LeavesInM (aT none) 9 P fn a'.tmps (fun e w'=>∃v ι',e= .returned v∧(∀b,inl fp b=true→ι' b=ι b)∧HSat (eQ M0 ι fp w 0) ι' (ah (tb++lives fp)) (fun b=>inl fp b=true∨inl tb b=true) w'∧Oth w w'∧
  RepA ι' (Mof (eQ M0 ι fp w 0) ι' (ah (tb++lives fp))) w' v x) a'.defers .returning w':=by
  rintro⟨fz,hr,hfz,hbx,hot,hxn⟩
  refine yX _ _ hs'.h (hs'.defers.marks rfl) hs'.env fun w1 hs1 henv=> ?_
  let p:Nat→Bool:=fun b=>inl fp b||inl tb b
  let ι2:=eB p id ι'
  have hι2:∀b g,ι2 b=some g→p b=true∧ι' b=some g:=fun b g h=>by
   simp only[ι2,eB,id] at h
   split at h
   ·rename_i hb;exact⟨hb,h⟩
   ·cases h
  have hM2:∀g,Mof (eQ M0 ι fp w 0) ι2 (ah (tb++lives fp)) g→Mof cx ι' A'.box g:=by
   rintro g (h|⟨b,y,h1,h2⟩)
   ·exact .inl h
   ·exact .inr ⟨b,y,hbx b y h1,(hι2 b g h2).2⟩
  have hM2k:∀g,Mof (eQ M0 ι fp w 0) ι2 (ah (tb++lives fp)) g→Mof cx ι' (ax A'.box (kills fz)) g:=by
   rintro g (h|⟨b,y,h1,h2⟩)
   ·exact .inl h
   ·refine .inr ⟨b,y,?_,(hι2 b g h2).2⟩
    rw[nT (tb:=kills fz) fun r hr=> ?_]
    ·exact hbx b y h1
    ·simp only[kills,List.mem_map] at hr
     obtain⟨q,hq,he⟩:=hr
     injection he with he _
     have:=(hfz q.1 q.2 hq).2
     rw[he] at this
     obtain⟨r2,h3⟩:=rq h1
     rw[jc.2 ⟨_,h3⟩] at this
     cases this
  have hcutv:∀v y,y.names p=true→RepA ι' (Mof cx ι' A'.box) w1 v y→RepA ι2 (Mof (eQ M0 ι fp w 0) ι2 (ah (tb++lives fp))) w1 v y:=fun v y hy h=>
   (h.cut (pO y).symm hy).less hM2
  have hpb:∀b y,ah (tb++lives fp) b=some y→p b=true∧y.okN p=true:=fun b y h=>by
   rw[ry] at h
   split at h
   ·rename_i ht
    refine⟨by simp[p,ht],?_⟩
    have key:∀l:ay,ah l b=some y→(b,some y)∈l:=by
     intro l
     induction l with
     |nil=>intro h;simp[ah,ax] at h
     |cons q l ih=>
      intro h
      simp only[ah,ax] at h
      by_cases hbp:b=q.1
      ·subst hbp;simp at h;rw[←h];simp
      ·rw[if_neg hbp] at h;exact List.mem_cons_of_mem _ (ih h)
    exact List.all_eq_true.1 hot _ (key tb h)
   ·have h1:=CU h
    refine⟨by simp[p,jc.2 ⟨_,h1⟩],List.all_eq_true.2 fun q hq=>pK (fun b hb=>by simp[p,hb]) (List.all_eq_true.1 (List.all_eq_true.1 hof _ h1) q hq)⟩
  have hfin:∀v y x,x.names p=true→pM fz y x→RepA ι' (Mof cx ι' A'.box) w1 v y→RepA ι2 (Mof (eQ M0 ι fp w 0) ι2 (ah (tb++lives fp))) w1 v x:=by
   intro v y x hxn h hv
   rcases h with rfl|h
   ·exact hcutv v y hxn hv
   ·exact .d ((tT hs1 (fun b x hb=>(hfz b x hb).1) h hv).keep (fun g _ h=>hM2k g h) (Nat.le_refl _) fun _ _ _=>rfl)
  have hres:∃v,(results fn a'.tmps).run P w1= .ok v w1∧RepA ι2 (Mof (eQ M0 ι fp w 0) ι2 (ah (tb++lives fp))) w1 v x:=by
   rw[GZ]
   generalize fn.results=rs at hr
   cases hr with
   |none=>exact⟨.tuple #[],by simp,.tup rfl ai⟩
   |one h hx=>
    obtain⟨v,h1,h2⟩:=kW hs1 henv h
    exact⟨v,by simp[h1],hfin v _ _ hxn hx h2⟩
   |two k1 k2 x1 x2=>
    obtain⟨v,h1,h2⟩:=kW hs1 henv k1
    obtain⟨v',h1',h2'⟩:=kW hs1 henv k2
    simp only[qU,List.all_cons,List.all_nil,Bool.and_true,Bool.and_eq_true] at hxn
    refine⟨.tuple #[v,v'],by simp[h1,h1'],.tup rfl ?_⟩
    intro i x y hx1 hy1
    rcases i with _|_|i
    ·simp at hx1 hy1;subst hx1 hy1;exact hfin v _ _ hxn.1 x1 h2
    ·simp at hx1 hy1;subst hx1 hy1;exact hfin v' _ _ hxn.2 x2 h2'
    ·simp at hy1
   |three k1 k2 k3 x1 x2 x3=>
    obtain⟨v,h1,h2⟩:=kW hs1 henv k1
    obtain⟨v',h1',h2'⟩:=kW hs1 henv k2
    obtain⟨v'',h1'',h2''⟩:=kW hs1 henv k3
    simp only[qU,List.all_cons,List.all_nil,Bool.and_true,Bool.and_eq_true] at hxn
    refine⟨.tuple #[v,v',v''],by simp[h1,h1',h1''],.tup rfl ?_⟩
    intro i x y hx1 hy1
    rcases i with _|_|_|i
    ·simp at hx1 hy1;subst hx1 hy1;exact hfin v _ _ hxn.1 x1 h2
    ·simp at hx1 hy1;subst hx1 hy1;exact hfin v' _ _ hxn.2.1 x2 h2'
    ·simp at hx1 hy1;subst hx1 hy1;exact hfin v'' _ _ hxn.2.2 x3 h2''
    ·simp at hy1
  obtain⟨v,hrun,hv⟩:=hres
  refine⟨v,hrun,v,ι2,rfl,fun b hb=> ?_,⟨⟨hs1.wi.os,hs1.wi.tape,hs1.wi.output,hs1.wi.evo,hs1.wi.oth,hs1.wi.block⟩,hs1.m0,fun b g hb=> ?_,fun b g hb=> ?_,fun b y hb=> ?_,fun b y hb=> ?_,fun b b' y y' g h1 h2 h3 h4=> ?_⟩,?_,hv⟩
  ·obtain⟨y,hy⟩:=xk hb
   have hyne:y.cs≠ []:=by
    have:=List.all_eq_true.1 hne _ (CU hy)
    simpa using this
   obtain⟨g,hg,-⟩:=hH.ne hy hyne
   have h1:=hs1.fix b g (by simp[cx,eQ,hb,hg])
   simp[ι2,eB,p,hb,h1,hg]
  ·have h1:=hs1.fix b g hb
   simp only[eQ] at hb
   split at hb
   ·rename_i hb';simp[ι2,eB,p,hb',h1]
   ·cases hb
  ·obtain⟨h1,h2⟩:=hι2 b g hb
   exact⟨by simpa[p] using h1,(hs1.dom b g h2).2⟩
  ·have:=(hpb b y hb).1
   simpa[p] using this
  ·rcases hs1.own b y (hbx b y hb) with⟨h1,h2⟩|⟨g,h1,h2,h3,d,h4,h5,h6⟩
   ·exact .inl ⟨h1,by simp[ι2,eB,h2]⟩
   ·obtain⟨hp,hyk⟩:=hpb b y hb
    refine .inr ⟨g,by simp[ι2,eB,hp,h1],h2,h3,d,h4,h5,fun j u q hu hq=>⟨(h6 j u q hu hq).1,hcutv u q (List.all_eq_true.1 hyk q (List.mem_of_getElem? hq)) (h6 j u q hu hq).2⟩⟩
  ·exact hs1.inj b b' y y' g (hbx b y h1) (hbx b' y' h2) (hι2 b g h3).2 (hι2 b' g h4).2
  ·exact hs1.wi.oth
 cases e with
 |normal=>exact key he
 |ret=>exact key he
 |_=>exact he.elim
end
end
section
section
variable {P:Program} {cx:Cx}
def fU (tb keep:ay):ay:=(keep.map fun p=>(p.1,none))++tb
def jN (box:ay) (y x:AV):Prop:=y=x∨iE box y x
def uh (box:ay):ay→Prop
 | []=>True
 |(b,some y)::l=>ah box b=some y∧uh box l
 |(_,none)::l=>uh box l
def zh (tb:List (Nat×Option Bx)) (fp:List (Nat×Bx)):ay:=tb++lives (fp.filter fun p=> !inl tb p.1)
def pQ (P:Program) (rs:Array ResultVar) (fp:List (Nat×Bx)) (x:AV) (tb:List (Nat×Option Bx)):Exit→LS→Prop
 | .normal,A| .ret,A=>(uh A.box (zh tb fp)∧lg fp tb=true∧x.names (fun b=>inl fp b||inl tb b)=true)∧match rs.toList,x with
   | [],.tup []=>True
   | [r],x=>dO P A.env A.box r fun y=>jN (fU A.box (tb++lives fp)) y x
   | [r,s],.tup [x,x']=>dO P A.env A.box r fun y=>jN (fU A.box (tb++lives fp)) y x∧dO P A.env A.box s fun y=>jN (fU A.box (tb++lives fp)) y x'
   | [r,s,t],.tup [x,x',x'']=>dO P A.env A.box r fun y=>jN (fU A.box (tb++lives fp)) y x∧dO P A.env A.box s fun y=>jN (fU A.box (tb++lives fp)) y x'∧dO P A.env A.box t fun y=>jN (fU A.box (tb++lives fp)) y x''
   |_,_=>False
 |_,_=>False
theorem CW {box:ay} {b:Nat} {y:Bx}:∀ {l:ay},uh box l→ah l b=some y→ah box b=some y
 | [],_,h=>by simp[ah,ax] at h
 |(c,some z)::l,h,hy=>by
  simp only[ah,ax] at hy
  by_cases hb:b=c
  ·subst hb;simp at hy;subst hy;exact h.1
  ·rw[if_neg hb] at hy;exact CW h.2 hy
 |(c,none)::l,h,hy=>by
  simp only[ah,ax] at hy
  by_cases hb:b=c
  ·subst hb;simp at hy
  ·rw[if_neg hb] at hy;exact CW (l:=l) h hy
theorem CX {tb:List (Nat×Option Bx)} {b:Nat} (h:inl tb b=false):∀ {fp:List (Nat×Bx)},ah (lives (fp.filter fun p=> !inl tb p.1)) b=ah (lives fp) b
 | []=>rfl
 |p::l=>by
  by_cases hb:b=p.1
  ·subst hb
   rw[List.filter_cons_of_pos (by simp[h])]
   simp[lives,ah,ax]
  ·by_cases hp:inl tb p.1=true
   ·rw[List.filter_cons_of_neg (by simp[hp])]
    have:=CX h (fp:=l)
    simp only[lives,List.map_cons,ah,ax,if_neg hb] at this ⊢
    exact this
   ·rw[List.filter_cons_of_pos (by simp[hp])]
    have:=CX h (fp:=l)
    simp only[lives,List.map_cons,ah,ax,if_neg hb] at this ⊢
    exact this
theorem PH {box keep:ay} {b:Nat} {x:Bx} (h:ah (fU box keep) b=some x):ah box b=some x∧inl keep b=false:=by
 unfold fU at h
 rw[ry] at h
 have key:∀keep:ay,inl (keep.map fun p=>(p.1,(none:Option Bx))) b=inl keep b∧ah (keep.map fun p=>(p.1,(none:Option Bx))) b=none:=by
  intro keep
  induction keep with
  |nil=>exact⟨rfl,rfl⟩
  |cons p l ih=>
   refine⟨by simp only[inl,List.map_cons,List.any_cons] at ih ⊢;rw[ih.1],?_⟩
   simp only[List.map_cons,ah,ax]
   split
   ·rfl
   ·exact ih.2
 rw[(key keep).1,(key keep).2] at h
 split at h
 ·cases h
 ·rename_i hb;exact⟨h,by simpa using hb⟩
theorem zi {rs:Array ResultVar} {fp:List (Nat×Bx)} {x:AV} {tb:List (Nat×Option Bx)} {A:LS} (h:pQ P rs fp x tb .ret A):∃fz,RessB P A.toAS fz rs x∧(∀b x,(b,x)∈fz→A.toAS.box b=some x∧inl (tb++lives fp) b=false)∧
 (∀b y,ah (tb++lives fp) b=some y→A.toAS.box b=some y)∧lg fp tb=true∧x.names (fun b=>inl fp b||inl tb b)=true:=by
 obtain⟨⟨h1,h2,h3⟩,h⟩:=h
 have hfz:∀b x,(b,x)∈bY (fU A.box (tb++lives fp)) (fU A.box (tb++lives fp))→A.toAS.box b=some x∧inl (tb++lives fp) b=false:=fun b x h=>PH (nY h)
 have hbx:∀b y,ah (tb++lives fp) b=some y→A.toAS.box b=some y:=fun b y hb=>by
  refine CW h1 ?_
  unfold zh
  rw[ry] at hb ⊢
  split
  ·rename_i ht;rw[if_pos ht] at hb;exact hb
  ·rename_i ht;rw[if_neg ht] at hb;rw[CX (by simpa using ht)];exact hb
 have hX:∀y x,jN (fU A.box (tb++lives fp)) y x→pM (bY (fU A.box (tb++lives fp)) (fU A.box (tb++lives fp))) y x:=fun y x h=>h.imp id ru
 have hrs:∀l,rs.toList=l→rs=l.toArray:=fun l h=>by rw[←h]
 refine⟨_,?_,hfz,hbx,h2,h3⟩
 split at h
 ·rename_i e1;rw[hrs _ e1];exact .none
 ·rename_i r x e1
  rw[hrs _ e1]
  obtain⟨y,k1,k2⟩:=kX (n:=A.next) h
  exact .one k1 (hX _ _ k2)
 ·rename_i r s x x' e1
  rw[hrs _ e1]
  obtain⟨y,k1,k2,k3⟩:=kX (n:=A.next) h
  obtain⟨y',k4,k5⟩:=kX (n:=A.next) k3
  exact .two k1 k4 (hX _ _ k2) (hX _ _ k5)
 ·rename_i r s t x x' x'' e1
  rw[hrs _ e1]
  obtain⟨y,k1,k2,k3⟩:=kX (n:=A.next) h
  obtain⟨y',k4,k5,k6⟩:=kX (n:=A.next) k3
  obtain⟨y'',k7,k8⟩:=kX (n:=A.next) k6
  exact .three k1 k4 k7 (hX _ _ k2) (hX _ _ k5) (hX _ _ k8)
 ·exact h.elim
theorem PK {f:FuncId} {fn:Func} {c:Code} {fp:List (Nat×Bx)} {args:List AV} {x:AV} {tb:List (Nat×Option Bx)} (n:Nat) (hm:P.follows .mixedOrders=true) (hf:P.funcs[f]? =some fn) (hb:fn.body=some c) (hn:args.length≤fn.ntmps) (hok:dn fn.ntmps c=true)
 (hfp:(fp.all (fun p=> !p.2.cs.isEmpty)&&okF fp&&fp.all (fun p=>decide (p.1<n)))=true)
 (h:∀cx:Cx,cx.N=fn.ntmps→cx.R=none→(∀b g,cx.F b=some g→inl fp b=true)→(args.all AV.lens=true∧∀b x,ah (lives fp) b=some x→x.cs.all AV.lens=true)→W P cx c (pQ P fn.results fp x tb) ⟨dP args 0,lives fp,n⟩):aC P f fp args x tb:=by
 simp only[Bool.and_eq_true] at hfp
 refine Hw hf hb hn hfp.1.1 hfp.1.2 n hfp.2 fun cx hN hR hF hL=> ?_
 have:=nX (cx:=cx) hm c _ _ (by rw[hN];exact hok) (h cx hN hR hF hL)
 have he:(⟨jK args,ah (lives fp),fun b=>b<n⟩:AS)=LS.toAS ⟨dP args 0,lives fp,n⟩:=by
  unfold LS.toAS bB
  congr 1
  ·funext t
   rw[uf]
   simp[jK]
  ·funext b
   simp
 rw[he]
 refine this.mono ?_
 rintro e A ⟨L,rfl,hL⟩
 cases e with
 |normal=>exact zi hL
 |ret=>exact zi hL
 |_=>exact hL.elim
def look (l:List Nat) (b:Nat):Nat:=l.getD b b
def rA (box:ay):List (Nat×Bx)→Prop
 | []=>True
 |(b,x)::l=>ah box b=some x∧rA box l
def xn (nm:Nat) (fp:List (Nat×Bx)) (tb:List (Nat×Option Bx)):Prop:=∀p,p∈tb→p.2.isSome=true→inl fp p.1=true∨(nm≤p.1∧p.1<nm+8)
theorem CY {box:ay}:∀ {l:List (Nat×Bx)},rA box l→∀b x,(b,x)∈l→ah box b=some x
 | [],_,b,x,h=>by simp at h
 |(c,y)::l,h,b,x,hx=>by
  rcases List.mem_cons.1 hx with e|hx
  ·injection e with e1 e2;subst e1 e2;exact h.1
  ·exact CY h.2 b x hx
theorem PL {env:Env} {box:ay} {nm:Nat} {f:FuncId} {l args:List AV} {o:Oper} {K:OpS→Prop} {fp:List (Nat×Bx)} {tb:List (Nat×Option Bx)} {x:AV} {hyp:Prop} (r:List Nat) (hc:bn P f) (hF:aC P f fp args x tb)
 (hl:l=args.map (AV.ren (look r))) (hs:(args.all (AV.names (inl fp))&&okF fp&&lg fp tb&&x.names (fun b=>inl fp b||inl tb b)&&mJ (look r) (lY fp++lh tb))=true) (hfp:rA box (kZ (look r) fp)) (hfr:xn nm (kZ (look r) fp) (fD (look r) tb))
 (hK:K ⟨kZ (look r) fp,x.ren (look r),fD (look r) tb⟩):bW P cx hyp env box nm f l o K:=by
 simp only[Bool.and_eq_true] at hs
 obtain⟨⟨⟨⟨h1,h2⟩,h3⟩,h4⟩,h5⟩:=hs
 refine fun ho=>⟨_,fun _=>Hu (look r) ho hc hF hl h1 h2 h3 h4 h5,CY hfp,fun b y hb=> ?_,hK⟩
 rcases hfr (b,some y) hb rfl with h|h
 ·exact .inl (jc.1 h)
 ·exact .inr h
end
end
end Go.Proofs.YtlikpcpllahalaaGreat.V
