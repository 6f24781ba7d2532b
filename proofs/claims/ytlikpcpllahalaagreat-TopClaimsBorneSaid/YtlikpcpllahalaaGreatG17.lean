/- Parts of the proof. -/
import Derived.Test.YtlikpcpllahalaaGreatG14
set_option linter.unusedSimpArgs false
set_option linter.unusedVariables false
namespace Go.Proofs.YtlikpcpllahalaaGreat.V
open Go.RowKit
variable {P:Program} {cx:Cx} {ι:Nat→Option Nat} {box:Nat→Option Bx} {used:Nat→Prop}
def Iter (P:Program) (gf:FuncId) (caps:List AV) (xs:List (Array Value)):Prop:=
 ∀(lb:Array Value) (l:Nat) (J:Nat→World→Prop) (Jx:World→Prop) (W:World) (M:Nat→Prop),lb.size=caps.length→(∀g,M g→g<W.heap.size)→
  (∀(i:Nat) (v:Value) (y:AV),lb[i]? =some v→caps[i]? =some y→RepD M W v y)→
  (∀k W1 W2,J k W1→Below W1.heap.size W1 W2→J k W2)→(∀W1 W2,Jx W1→Below W1.heap.size W1 W2→Jx W2)→
  (∀k W1,J k W1→W.heap.size≤W1.heap.size∧∀g,g<W.heap.size→¬M g→W1.heap[g]? =W.heap[g]?)→
  (∀k W1 x,J k W1→xs[k]? =some x→YieldAt (aT none) 9 P l x W1 fun e W'=>(e= .returned (.bool true)∧J (k+1) W')∨(e= .returned (.bool false)∧Jx W'))→
  J 0 W→CallsIn (aT none) 8 P gf (#[.func (.yield l) #[] #[]]++lb) W fun e W'=>(∃v,e= .returned v)∧(J xs.length W'∨Jx W')
theorem HSat.move {cx':Cx} {w w':World} (h:HSat cx ι box used w) (hwi:Within cx' w') (hm0:∀g,cx'.M0 g→g<cx'.base) (hfix:∀b g,cx'.F b=some g→ι b=some g) (he:Evo w w')
 (hM:∀g,g<w.heap.size→cx'.M0 g→cx.M0 g) (hb:∀g,g<w.heap.size→¬Mof cx ι box g→w'.heap[g]? =w.heap[g]?)
 (hown:∀b x g,box b=some x→ι b=some g→¬cx.M0 g→w'.heap[g]? =w.heap[g]? ∧(cx'.base≤g∨cx'.G g)∧¬cx'.M0 g):
 HSat cx' ι box used w'∧∀v y,RepA ι (Mof cx ι box) w v y→RepA ι (Mof cx' ι box) w' v y:=by
 have hMM:∀g,g<w.heap.size→Mof cx' ι box g→Mof cx ι box g:=by
  rintro g hg (h1|h1)
  ·exact .inl (hM g hg h1)
  ·exact .inr h1
 have keep:∀v y,RepA ι (Mof cx ι box) w v y→RepA ι (Mof cx' ι box) w' v y:=fun v y hr=>RepA.keep (fun _ _ h=>h) hMM he hb hr
 refine⟨⟨hwi,hm0,hfix,fun b g hg=>⟨(h.dom b g hg).1,Nat.lt_of_lt_of_le (h.dom b g hg).2 he.size⟩,h.ub,fun b x hbx=> ?_,h.inj⟩,keep⟩
 rcases h.own b x hbx with h1|⟨g,e1,e2,e3,c,e4,e5,e6⟩
 ·exact .inl h1
 ·obtain⟨o1,o2,o3⟩:=hown b x g hbx e1 e3
  exact .inr ⟨g,e1,o2,o3,c,o1.trans e4,e5,fun j v y hv hy=>⟨(e6 j v y hv hy).1,keep _ _ (e6 j v y hv hy).2⟩⟩
def wo (w:World) (o:Obj):World:=(w.alloc (.deferred (some []))).alloc o
section
variable {w W:World} {o o':Obj}
theorem uA:(wo w o).heap=(w.heap.push (.deferred (some []))).push o:=rfl
theorem pY:(wo w o).heap.size=w.heap.size+2:=by simp[uA]
theorem zP:(wo w o).heap[w.heap.size+1]? =some o:=by
 rw[uA,Array.getElem?_push];simp
theorem SG:(wo w o).heap[w.heap.size]? =some (.deferred (some [])):=by
 rw[uA,Array.getElem?_push,Array.getElem?_push];simp
theorem Jg {g:Nat} (hg:g<w.heap.size):(wo w o).heap[g]? =w.heap[g]? :=by
 rw[uA,Array.getElem?_push,Array.getElem?_push,if_neg (by simp;omega),if_neg byOmega]
theorem DX {g:Nat} (hg:g≠w.heap.size+1):(wo w o).heap[g]? =(wo w o').heap[g]? :=by
 rw[uA,uA,Array.getElem?_push,Array.getElem?_push (xs:=w.heap.push _) (x:=o'),if_neg (by simpa using hg),if_neg (by simpa using hg)]
theorem Jh:Below w.heap.size w (wo w o):=((Below.refl _ w).alloc (Nat.le_refl _) _).alloc ai _
def je (cx:Cx) (w:World) (G0:Nat→Prop) (F0:Nat→Option Nat) (o:Obj):Cx:=⟨wo w o,G0,fun g=>cx.M0 g∨g=w.heap.size∨g=w.heap.size+1,cx.N,some (w.heap.size+1),F0,[]⟩
variable {G0:Nat→Prop} {F0:Nat→Option Nat}
theorem rQ (ho:iC o=false) (h:HSat (je cx w G0 F0 o) ι box used W):W.heap[w.heap.size+1]? =some o∧W.heap[w.heap.size]? =some (.deferred (some [])):=
 ⟨h.wi.oth _ _ zP ho,h.wi.oth _ _ SG rfl⟩
theorem zQ (ho:iC o=false) (ho':iC o'=false) (h:HSat (je cx w G0 F0 o) ι box used W):
 HSat (je cx w G0 F0 o') ι box used (W.putObj (w.heap.size+1) o')∧∀v y,RepA ι (Mof (je cx w G0 F0 o) ι box) W v y→RepA ι (Mof (je cx w G0 F0 o') ι box) (W.putObj (w.heap.size+1) o') v y:=by
 obtain⟨hl,hD⟩:=rQ ho h
 have hlt:w.heap.size+1<W.heap.size:=(Array.getElem?_eq_some_iff.1 hl).1
 have hs:(W.putObj (w.heap.size+1) o').heap.size=W.heap.size:=by simp[World.putObj]
 have hput:∀g,g≠w.heap.size+1→(W.putObj (w.heap.size+1) o').heap[g]? =W.heap[g]? :=fun g hg=>World.putObj_heap_other hg
 have hpl:(W.putObj (w.heap.size+1) o').heap[w.heap.size+1]? =some o':=World.putObj_heap_same hlt
 have hev:Evo W (W.putObj (w.heap.size+1) o'):=⟨by rw[hs];exact Nat.le_refl _,fun g c t hg=>⟨c,by
  rw[hput g (by rintro rfl;rw[hl] at hg;cases hg;cases ho)];exact hg,rfl⟩⟩
 refine h.move ⟨h.wi.os,h.wi.tape,h.wi.output,⟨?_,fun g c t hg=> ?_⟩,fun g x hg hx=> ?_,fun k hk hG=> ?_⟩ (fun g hg=> ?_) h.fix hev (fun g _ hg=>hg) (fun g _ hn=>hput g fun e=>hn (.inl (.inr (.inr e))))
  (fun b x g hb hι hn=>⟨hput g fun e=>hn (.inr (.inr e)),?_,hn⟩)
 ·show(wo w o').heap.size≤_
  have:=h.wi.evo.size
  rw[hs,pY]
  show w.heap.size+2≤W.heap.size
  omega
 ·have hg:(wo w o').heap[g]? =some (Obj.cells c t (0,0)):=hg
  have hne:g≠w.heap.size+1:=by rintro rfl;rw[zP] at hg;cases hg;cases ho'
  rw[DX (o':=o) hne] at hg
  rw[hput g hne]
  exact h.wi.evo.cells g c t hg
 ·have hg:(wo w o').heap[g]? =some x:=hg
  by_cases hne:g=w.heap.size+1
  ·subst hne;rw[zP] at hg;cases hg;exact hpl
  ·rw[DX (o':=o) hne] at hg
   rw[hput g hne]
   exact h.wi.oth g x hg hx
 ·have hk:k<(wo w o').heap.size:=hk
  show _=(wo w o').heap[k]?
  by_cases hne:k=w.heap.size+1
  ·subst hne;rw[zP];exact hpl
  ·rw[hput k hne,DX (o':=o) hne]
   exact h.wi.block k (by show k<(wo w o).heap.size;rw[pY] at hk ⊢;exact hk) hG
 ·have:=h.m0 g hg
  show g<(wo w o').heap.size
  have:g<(wo w o).heap.size:=this
  rw[pY] at this ⊢
  exact this
 ·rcases h.own b x hb with⟨-,h1⟩|⟨g',e1,e2,-⟩
  ·rw[h1] at hι;cases hι
  ·rw[e1] at hι;cases hι
   rcases e2 with e2|e2
   ·refine .inl ?_
    show(wo w o').heap.size≤g
    have:(wo w o).heap.size≤g:=e2
    rw[pY] at this ⊢;exact this
   ·exact .inr e2
theorem DY (p:Nat) (h:HSat cx ι box used w):
 HSat (je cx w (fun g=>∃b x,box b=some x∧ι b=some g) (fun b=>if b<p then ι b else none) o) ι box used (wo w o)∧
  ∀v y,RepA ι (Mof cx ι box) w v y→RepA ι (Mof (je cx w (fun g=>∃b x,box b=some x∧ι b=some g) (fun b=>if b<p then ι b else none) o) ι box) (wo w o) v y:=by
 have hb:=Jh (w:=w) (o:=o)
 refine h.move ⟨rfl,rfl,rfl,Evo.refl _,Oth.refl _,fun _ _ _=>rfl⟩ (fun g hg=> ?_) (fun b g hg=> ?_) (CG hb) (fun g hlt hg=> ?_) (fun g hg _=>hb.block g hg) (fun b x g hbx hι hn=>⟨hb.block g (h.dom b g hι).2,.inr ⟨b,x,hbx,hι⟩,?_⟩)
 ·show g<(wo w o).heap.size
  rw[pY]
  rcases hg with hg|hg|hg
  ·have:=h.m0 g hg
   have:=h.wi.evo.size
   have:cx.base≤w.heap.size:=this
   omega
  ·omega
  ·omega
 ·simp only[je] at hg
  split at hg
  ·exact hg
  ·cases hg
 ·rcases hg with hg|hg|hg
  ·exact hg
  ·omega
  ·omega
 ·have:=(h.dom b g hι).2
  rintro(hg|hg|hg)
  ·exact hn hg
  ·omega
  ·omega
theorem SH {used':Nat→Prop} {ι0:Nat→Option Nat} {box0:Nat→Option Bx} {p:Nat} (hs:HSat cx ι0 box0 used w)
 (h:HSat (je cx w (fun g=>∃b x,box0 b=some x∧ι0 b=some g) (fun b=>if b<p then ι0 b else none) o) ι box used' W) {v:Value} {y:AV} (hy:RepA ι0 (Mof cx ι0 box0) w v y) (hp:y.names (fun b=>decide (b<p))=true):
 RepA ι (Mof (je cx w (fun g=>∃b x,box0 b=some x∧ι0 b=some g) (fun b=>if b<p then ι0 b else none) o) ι box) W v y:=by
 obtain⟨h0,k0⟩:=DY (o:=o) p hs
 have h1:=(k0 v y hy).cut (p:=fun b=>decide (b<p)) (r:=id) (pO y).symm hp
 refine RepA.keep (fun b g hb=> ?_) (fun g hg hm=> ?_) h.wi.evo (fun g hg hn=> ?_) h1
 ·refine h.fix b g ?_
  simpa[je,eB] using hb
 ·rcases hm with hm|⟨b,x,e1,e2⟩
  ·exact .inl hm
  ·rcases h.own b x e1 with⟨-,e3⟩|⟨g',e3,e4,-⟩
   ·rw[e3] at e2;cases e2
   ·rw[e3] at e2;cases e2
    rcases e4 with e4|⟨b',x',e5,e6⟩
    ·exact absurd hg (Nat.not_lt.2 e4)
    ·exact .inr ⟨b',x',e5,e6⟩
 ·refine h.wi.block g hg fun hG=>hn ?_
  obtain⟨b,x,e1,e2⟩:=hG
  exact .inr ⟨b,x,e1,e2⟩
theorem Ji {used':Nat→Prop} {ι0:Nat→Option Nat} {box0:Nat→Option Bx} {p:Nat} (hs:HSat cx ι0 box0 used w) (hF:∀b g,cx.F b=some g→b<p) (ho:iC o=false) (ho':iC o'=false)
 (h:HSat (je cx w (fun g=>∃b x,box0 b=some x∧ι0 b=some g) (fun b=>if b<p then ι0 b else none) o) ι box used' W):
 HSat cx ι box used' (W.putObj (w.heap.size+1) o')∧(∀v y,RepA ι (Mof (je cx w (fun g=>∃b x,box0 b=some x∧ι0 b=some g) (fun b=>if b<p then ι0 b else none) o) ι box) W v y→RepA ι (Mof cx ι box) (W.putObj (w.heap.size+1) o') v y)∧
  Oth w (W.putObj (w.heap.size+1) o')∧(W.putObj (w.heap.size+1) o').heap[w.heap.size]? =some (.deferred (some [])):=by
 obtain⟨hl,hD⟩:=rQ ho h
 have hlt:w.heap.size+1<W.heap.size:=(Array.getElem?_eq_some_iff.1 hl).1
 have hsz:(W.putObj (w.heap.size+1) o').heap.size=W.heap.size:=by simp[World.putObj]
 have hput:∀g,g≠w.heap.size+1→(W.putObj (w.heap.size+1) o').heap[g]? =W.heap[g]? :=fun g hg=>World.putObj_heap_other hg
 have hev:Evo W (W.putObj (w.heap.size+1) o'):=⟨by rw[hsz];exact Nat.le_refl _,fun g c t hg=>⟨c,by
  rw[hput g (by rintro rfl;rw[hl] at hg;cases hg;cases ho)];exact hg,rfl⟩⟩
 have hbs:cx.base≤w.heap.size:=hs.wi.evo.size
 have hoth:Oth w (W.putObj (w.heap.size+1) o'):=fun g x hg hx=>by
  have hgl:=(Array.getElem?_eq_some_iff.1 hg).1
  rw[hput g byOmega]
  exact h.wi.oth g x (by show(wo w o).heap[g]? =_;rw[Jg hgl];exact hg) hx
 have hG:∀g,(∃b x,box0 b=some x∧ι0 b=some g)→cx.base≤g∨cx.G g:=by
  rintro g ⟨b,x,e1,e2⟩
  rcases hs.own b x e1 with⟨-,e3⟩|⟨g',e3,e4,-⟩
  ·rw[e3] at e2;cases e2
  ·rw[e3] at e2;cases e2;exact e4
 have hM:=h.move (cx':=cx) (w':=W.putObj (w.heap.size+1) o') ⟨h.wi.os.trans hs.wi.os,h.wi.tape.trans hs.wi.tape,h.wi.output.trans hs.wi.output,(hs.wi.evo.trans (CG Jh)).trans (h.wi.evo.trans hev),hs.wi.oth.trans hoth,fun k hk hn=> ?_⟩ hs.m0
  (fun b g hb=>h.fix b g (by simp only[je,if_pos (hF b g hb)];exact hs.fix b g hb)) hev (fun g _ hg=> .inl hg) (fun g _ hn=>hput g fun e=>hn (.inl (.inr (.inr e)))) (fun b x g hb hι hn=>⟨hput g fun e=>hn (.inr (.inr e)),?_,fun hg=>hn (.inl hg)⟩)
 ·exact⟨hM.1,hM.2,hoth,by rw[hput _ byOmega];exact hD⟩
 ·have hkw:k<w.heap.size:=Nat.lt_of_lt_of_le hk hbs
  rw[hput k byOmega]
  refine(h.wi.block k (by show k<(wo w o).heap.size;rw[pY];omega) fun hg=> ?_).trans ((Jg hkw).trans (hs.wi.block k hk hn))
  rcases hG k hg with h1|h1
  ·exact absurd hk (Nat.not_lt.2 h1)
  ·exact hn h1
 ·rcases h.own b x hb with⟨-,h1⟩|⟨g',e1,e2,-⟩
  ·rw[h1] at hι;cases hι
  ·rw[e1] at hι;cases hι
   rcases e2 with e2|e2
   ·refine .inl (Nat.le_trans hbs ?_)
    have:(wo w o).heap.size≤g:=e2
    rw[pY] at this;omega
   ·exact hG g e2
end
def zR (ps:List Nat) (ys:List AV) (E:Env):Env:=(ps.zip ys).foldl (fun e p=>(p.1,p.2)::e) E
theorem Jj {M:Nat→Prop} {w:World} {N:Nat}:∀(ps:List Nat) (vs:List Value) (ys:List AV) (tm:Array Value) (E:Env),tm.size=N→(∀t,RepA ι M w (tm.getD t undef) (bf E t))→vs.length=ys.length→
 (∀(i:Nat) (v:Value) (y:AV),vs[i]? =some v→ys[i]? =some y→RepA ι M w v y)→(∀t,t∈ps→t<N)→
 ((ps.zip vs).foldl (fun t p=>t.setIfInBounds p.1 p.2) tm).size=N∧∀t,RepA ι M w (((ps.zip vs).foldl (fun t p=>t.setIfInBounds p.1 p.2) tm).getD t undef) (bf (zR ps ys E) t)
 | [],vs,ys,tm,E,h1,h2,_,_,_=>⟨h1,h2⟩
 |q::ps,[],[],tm,E,h1,h2,_,_,_=>⟨h1,h2⟩
 |q::ps,[],y::ys,tm,E,_,_,h,_,_=>by simp at h
 |q::ps,v::vs,[],tm,E,_,_,h,_,_=>by simp at h
 |q::ps,v::vs,y::ys,tm,E,h1,h2,h3,h4,h5=>by
  have hq:q<tm.size:=by rw[h1];exact h5 q ai
  refine Jj ps vs ys (tm.setIfInBounds q v) ((q,y)::E) (by simpa using h1) (fun t=> ?_) (by simpa using h3) (fun i v' y' hv hy=>h4 (i+1) v' y' (by simpa using hv) (by simpa using hy)) fun t ht=>h5 t (by simp[ht])
  rw[zK]
  by_cases ht:t=q
  ·subst ht
   rw[if_pos rfl]
   have:(tm.setIfInBounds t v).getD t undef=v:=by simp[Array.getD,hq]
   rw[this]
   exact h4 0 v y ai ai
  ·rw[if_neg ht]
   have:(tm.setIfInBounds q v).getD t undef=tm.getD t undef:=by
    simp only[Array.getD,Array.size_setIfInBounds]
    split
    ·rename_i hlt
     exact Array.getElem_setIfInBounds_ne (by simpa using hlt) (Ne.symm ht)
    ·rfl
   rw[this]
   exact h2 t
def DZ {σ:Type} (cx:Cx) (E:Env) (I:σ→ay×Nat) (idx:σ→Nat) (k:Nat) (Q:Exit→LS→Prop):Exit→LS→Prop
 | .normal,A=>∃(s':σ) (r:Nat→Nat),idx s'=k+1∧LCut cx r ⟨E,A.box,A.next⟩ ⟨E,(I s').1,(I s').2⟩
 | .ret,A=>Q .ret ⟨E,A.box,A.next⟩
 | .exit id,A=>Q (.exit id) ⟨E,A.box,A.next⟩
 |_,_=>False
theorem Jk {m m':Nat} {l:Nat} {f:FuncId} {tmps:Array Value} {assign body:Code} {w:World} {R:Ending→World→Prop} (h:RoundIn (aT none) m P l f tmps assign body w R):RoundIn (aT none) m' P l f tmps assign body w R:=
 ⟨h.1,fun c cs _=>h.2 c cs (fun d hd=>by cases hd)⟩
def D5 (P:Program) (gf:FuncId) (caps:List AV) (ys:List (List AV)):Prop:=
 ∀(lb:Array Value) (l:Nat) (J:Nat→World→Prop) (Jx:World→Prop) (W:World) (M:Nat→Prop),lb.size=caps.length→(∀g,M g→g<W.heap.size)→
  (∀(i:Nat) (v:Value) (y:AV),lb[i]? =some v→caps[i]? =some y→RepD M W v y)→
  (∀k W1 W2,J k W1→Below W1.heap.size W1 W2→J k W2)→(∀W1 W2,Jx W1→Below W1.heap.size W1 W2→Jx W2)→
  (∀k W1,J k W1→W.heap.size≤W1.heap.size∧∀g,g<W.heap.size→¬M g→W1.heap[g]? =W.heap[g]?)→
  (∀k W0 W1 (x:Array Value) (y:List AV),J k W0→Below W0.heap.size W0 W1→ys[k]? =some y→x.size=y.length→(∀(i:Nat) (v:Value) (a:AV),x[i]? =some v→y[i]? =some a→∀ι,RepA ι (fun g=>M g∨(W.heap.size≤g∧g<W0.heap.size)) W1 v a)→
    YieldAt (aT none) 9 P l x W1 fun e W'=>(e= .returned (.bool true)∧J (k+1) W')∨(e= .returned (.bool false)∧Jx W'))→
  J 0 W→CallsIn (aT none) 8 P gf (#[.func (.yield l) #[] #[]]++lb) W fun e W'=>(∃v,e= .returned v)∧(J ys.length W'∨Jx W')
set_option maxHeartbeats 1000000 in
theorem D6 {σ:Type} {g:Operand} {ps:Array Nat} {assign body:Code} {Q:Exit→LS→Prop} {A:LS} (hm:P.follows .mixedOrders=true) (hro:cx.R=none) (p:Nat) (E:Env) (I:σ→ay×Nat) (idx:σ→Nat) (r:Nat→Nat) (s₀:σ)
 {gf:FuncId} {caps:List AV} (ys:List (List AV)) (hit:D5 P gf caps ys) (hcg:bn P gf) (h₀:LCut cx r A ⟨E,(I s₀).1,(I s₀).2⟩) (hi0:idx s₀=0) (hF:∀b g,cx.F b=some g→b<p)
 (hE0:(E.all fun q=>q.2.names fun b=>decide (b<p))=true) (hg:aI E g= .fn (.func gf) [] caps) (hgd:caps.all AV.isData=true)
 (hyn:∀y,y∈ys→y.length=ps.size)
 (hps:ps.toList.all (fun t=>decide (t<cx.N))=true) (hoka:dn cx.N assign=true) (hokb:dn cx.N body=true)
 (round:∀s y,ys[idx s]? =some y→∀cx':Cx,cx'.N=cx.N→(∀b g,cx'.F b=some g→b<p)→
   W P cx' assign (gX (fun A1=>∀cx'':Cx,cx''.N=cx.N→(∀b g,cx''.F b=some g→b<p)→W P cx'' body (DZ cx'' E I idx (idx s) Q) A1) (fun _ _=>False)) ⟨zR ps.toList y E,(I s).1,(I s).2⟩)
 (done:∀s,idx s=ys.length→Q .normal ⟨E,(I s).1,(I s).2⟩):aY P cx (.rangeFunc g ps assign body) Q A:=by
 have hE:∀t x,(t,x)∈E→x.names (fun b=>decide (b<p))=true:=fun t x h=>by
  rw[List.all_eq_true] at hE0
  exact hE0 (t,x) h
 clear hE0
 intro ι1 a w hs1
 have hs:=hs1.cut h₀.cut
 generalize eB _ r ι1=ι0 at hs
 clear hs1 h₀
 have hEn:∀t,(bf E t).names (fun b=>decide (b<p))=true:=by
  intro t
  clear hg done round hs
  induction E with
  |nil=>simp[bf,AV.names]
  |cons q E ih=>
   rw[show q=(q.1,q.2) from rfl,zK]
   split
   ·exact hE q.1 q.2 ai
   ·exact ih fun t x h=>hE t x (by simp[h])
 refine wpIn_rangeFunc ?_
 intro fn hfn
 rw[show(aT cx.R).round=none from hro]
 have hv:=hs.eval g
 rw[kv,hg] at hv
 obtain⟨fs,lb,hv0,hfs,hlb,-,hlc⟩:=hv.fn'
 have hfs0:fs= #[]:=Array.eq_empty_of_size_eq_zero (by simpa using hfs)
 subst hfs0
 obtain⟨rec,hrec⟩:∃rec:LoopState→Option Code→Obj,rec=fun st pe=> .loop {state:=st,pending:=pe,fn,tmps:=a.tmps,params:=ps,assign,body,defers:=w.heap.size}:=⟨_,rfl⟩
 have hrC:∀st pe,iC (rec st pe)=false:=fun st pe=>by rw[hrec];rfl
 let G0:Nat→Prop:=fun g=>∃b x,ah (I s₀).1 b=some x∧ι0 b=some g
 let F0:Nat→Option Nat:=fun b=>if b<p then ι0 b else none
 let cO:Obj→Cx:=je cx w G0 F0
 let a0:Go.Act:={a with defers:=[]}
 let J:Nat→World→Prop:=fun k W=>∃s ι,idx s=k∧Sat (cO (rec .ready none)) ι (bB E (I s).1 (I s).2 []) a0 W
 let Jx:World→Prop:=fun W=>∃(e:Exit) (c:Code) (bx:ay) (n:Nat) (ι:Nat→Option Nat),((e= .ret∧c= .ret)∨∃id,e= .exit id∧c= .exit id)∧Q e ⟨E,bx,n⟩∧Sat (cO (rec .done (some c))) ι (bB E bx n []) a0 W
 have henv:∀ {o:Obj} {ι:Nat→Option Nat} {box:Nat→Option Bx} {used:Nat→Prop} {W:World},HSat (cO o) ι box used W→∀t,RepA ι (Mof (cO o) ι box) W (a0.tmps.getD t undef) (bf E t):=
  fun h t=>SH hs.h h (hs.env t) (hEn t)
 have hsz0:a0.tmps.size=cx.N:=hs.size
 have below:∀ {o:Obj} {ι:Nat→Option Nat} {A':AS} {W1 W2:World},Sat (cO o) ι A' a0 W1→Below W1.heap.size W1 W2→Sat (cO o) ι A' a0 W2:=fun h hb=>
  ⟨(tQ h.h hb).h,h.size,⟨[],[],rfl,trivial⟩,fun t=>(tQ h.h hb).keep _ _ (h.env t)⟩
 refine⟨w.heap.size+1,[{target:= .collected w.heap.size,args:= #[]}],wo w (rec .ready none),{target:= .fn (.func gf) lb,args:= #[.func (.yield (w.heap.size+1)) #[] #[]]},wo w (rec .ready none),gf,
  #[.func (.yield (w.heap.size+1)) #[] #[]]++lb,wo w (rec .ready none),?_,?_,?_,?_,fun _=>by omega,?_⟩
 ·rw[hrec];exact run_enterLoop_outer _ _ _ _ _
 ·simp only[resolve,hv0]
  simp[go_sem]
 ·intro f' _;trivial
 ·have:=hcg (#[.func (.yield (w.heap.size+1)) #[] #[]]++lb) (wo w (rec .ready none))
  simp[invoke,go_sem] at this ⊢
  exact this
 ·obtain⟨hst,kst⟩:=DY (o:=rec .ready none) p hs.h
  have hI:=hit lb (w.heap.size+1) J Jx (wo w (rec .ready none)) (Mof (cO (rec .ready none)) ι0 (ah (I s₀).1)) (by simpa using hlb) (fun g hM=>wB hst hM) (fun i v y hv hy=>(kst _ _ (hlc i v y hv hy)).toD (by rw[List.all_eq_true] at hgd;exact hgd y (List.mem_of_getElem? hy))) ?_ ?_ ?_ ?_ ?_
  ·have hI2:CallsIn (aT cx.R) 8 P gf (#[.func (.yield (w.heap.size+1)) #[] #[]]++lb) (wo w (rec .ready none)) fun e W'=>(∃v,e= .returned v)∧(J ys.length W'∨Jx W'):=by rw[hro];exact hI
   refine hI2.mono ?_
   have hmk:∀ {W':World},Oth w W'→W'.heap[w.heap.size]? =some (.deferred (some []))→MarksD cx W' ([{target:= .collected w.heap.size,args:= #[]}]++a.defers):=fun {W'} ho hD=>by
    obtain⟨m1,m0,hm1,hm2⟩:=hs.defers
    refine⟨_::m1,m0,by rw[hm1];rfl,⟨_,rfl,hs.h.wi.evo.size,hD,?_⟩,hm2.keep ho⟩
    have:∀(l:List Deferred),Marks cx w l→∀d',d'∈l→d'≠ {target:= .collected w.heap.size,args:= #[]}:=by
     intro l
     induction l with
     |nil=>intro _ d' h;simp at h
     |cons d l ih=>
      rintro⟨⟨D,rfl,-,hD',-⟩,h2⟩ d' hd' he
      rcases List.mem_cons.1 hd' with rfl|hd'
      ·have:=(Array.getElem?_eq_some_iff.1 hD').1
       simp at he;omega
      ·exact ih h2 d' hd' he
    exact this _ hm2
   rintro e W2 ⟨⟨v,rfl⟩,(⟨s,ι,hi,hS⟩|⟨e,c,bx,n,ι,he,hQ,hS⟩)⟩
   ·obtain⟨hl,-⟩:=rQ (hrC _ _) hS.h
    obtain⟨e1,e2,e3,e4⟩:=Ji (o':=rec .exhausted none) hs.h hF (hrC _ _) (hrC _ _) hS.h
    refine⟨none,W2.putObj (w.heap.size+1) (rec .exhausted none),?_,?_⟩
    ·rw[hrec] at hl ⊢
     exact run_endLoop hl ai
    ·exact⟨ι,_,⟨e1,hS.size,hmk e3 e4,fun t=>e2 _ _ (hS.env t)⟩,_,rfl,done s hi⟩
   ·obtain⟨hl,-⟩:=rQ (hrC _ _) hS.h
    obtain⟨e1,e2,e3,e4⟩:=Ji (o':=rec .exhausted (some c)) hs.h hF (hrC _ _) (hrC _ _) hS.h
    refine⟨some c,W2.putObj (w.heap.size+1) (rec .exhausted (some c)),?_,?_⟩
    ·rw[hrec] at hl ⊢
     exact run_endLoop hl ai
    ·have hfin:∃ι' A',Sat cx ι' A' {a with defers:=[{target:= .collected w.heap.size,args:= #[]}]++a.defers} (W2.putObj (w.heap.size+1) (rec .exhausted (some c)))∧lift Q e A':=
      ⟨ι,_,⟨e1,hS.size,hmk e3 e4,fun t=>e2 _ _ (hS.env t)⟩,_,rfl,hQ⟩
     rcases he with⟨rfl,rfl⟩|⟨id,rfl,rfl⟩
     ·exact wpIn_ret hfin
     ·exact wpIn_exit hfin
  ·rintro k W1 W2 ⟨s,ι,hi,hS⟩ hb
   exact⟨s,ι,hi,below hS hb⟩
  ·rintro W1 W2 ⟨e,c,bx,n,ι,he,hQ,hS⟩ hb
   exact⟨e,c,bx,n,ι,he,hQ,below hS hb⟩
  ·rintro k W1 ⟨s,ι,hi,hS⟩
   refine⟨hS.h.wi.evo.size,fun g hg hM=>hS.h.wi.block g hg fun hG=>hM ?_⟩
   obtain⟨b,x,e1,e2⟩:=hG
   exact .inr ⟨b,x,e1,e2⟩
  ·
   rintro k W0 W x y ⟨s,ι,hi,hS0⟩ hWW hy z1 z4
   have hS:=below hS0 hWW
   have z2:x.size=ps.size:=by rw[z1];exact hyn y (List.mem_of_getElem? hy)
   have z3:∀(i:Nat) (v:Value) (a:AV),x[i]? =some v→y[i]? =some a→RepA ι (Mof (cO (rec .ready none)) ι (ah (I s).1)) W v a:=fun i v a hv ha=>(z4 i v a hv ha ι).keep (fun _ _ h=>h) (fun g hg hM=>by
    rcases hM with h1|⟨b,u,h1,h2⟩
    ·exact .inl (.inl h1)
    ·have hd:=(hS0.h.dom b g h2).2
     rcases hS.h.own b u h1 with h3|⟨g',e1,e2,-⟩
     ·rw[h3.2] at h2;cases h2
     ·rw[h2] at e1
      cases e1
      rcases e2 with e2|⟨b',u',e3,e4⟩
      ·exact .inr ⟨e2,hd⟩
      ·exact .inl (.inr ⟨b',u',e3,e4⟩)) (.refl _) (fun _ _ _=>rfl)
   obtain⟨hl,-⟩:=rQ (hrC _ _) hS.h
   have hl':=hl
   rw[hrec] at hl'
   have hyl:=run_yield (P:=P) (args:=x) hl' z2
   refine⟨fn,_,assign,body,hyl,roundIn_of_wpIn hfn ?_⟩
   have hfold:=Jj (N:=cx.N) ps.toList x.toList y a0.tmps E hS.size hS.env (by simpa using z1) (fun i v b hv hb=>z3 i v b (by simpa using hv) hb) (by
    intro t ht
    rw[List.all_eq_true] at hps
    simpa using hps t ht)
   have htm:((ps.zip x).foldl (fun tmps (t,a)=>tmps.setIfInBounds t a) a.tmps)=(ps.toList.zip x.toList).foldl (fun t p=>t.setIfInBounds p.1 p.2) a0.tmps:=by
    rw[←Array.foldl_toList,Array.toList_zip]
   have hS1:Sat (cO (rec .ready none)) ι (LS.toAS ⟨zR ps.toList y E,(I s).1,(I s).2⟩) {tmps:=(ps.zip x).foldl (fun tmps (t,a)=>tmps.setIfInBounds t a) a.tmps,defers:=[]} W:=
    ⟨hS.h,by show Array.size _=_;rw[htm];exact hfold.1,⟨[],[],rfl,trivial⟩,fun t=>by show RepA _ _ _ (Array.getD _ _ _) _;rw[htm];exact hfold.2 t⟩
   have hFO:∀(o:Obj) (b g:Nat),(cO o).F b=some g→b<p:=fun o b g h=>by
    have h:(if b<p then ι0 b else none)=some g:=h
    split at h
    ·assumption
    ·cases h
   have hW1:=nX (cx:=cO (rec .ready none)) hm assign _ _ hoka (round s y (by rw[hi];exact hy) (cO (rec .ready none)) rfl (hFO _)) ι _ W hS1
   refine wpIn_mono hW1 ?_
   rintro e a1 W2 ⟨ι2,A2,hS2,L2,rfl,hL2⟩
   cases e with
   |normal=>
    obtain⟨hl2,-⟩:=rQ (hrC _ _) hS2.h
    obtain⟨t1,t2⟩:=zQ (o':=rec .busy none) (hrC _ _) (hrC _ _) hS2.h
    refine⟨W2.putObj (w.heap.size+1) (rec .busy none),?_,?_⟩
    ·rw[hrec] at hl2 ⊢
     exact run_beginRound hl2 rfl
    have hS3:Sat (cO (rec .busy none)) ι2 L2.toAS a1 (W2.putObj (w.heap.size+1) (rec .busy none)):=by
     refine⟨t1,hS2.size,?_,fun t=>t2 _ _ (hS2.env t)⟩
     have:∀(l:List Deferred),Marks (cO (rec .ready none)) W2 l→Marks (cO (rec .busy none)) (W2.putObj (w.heap.size+1) (rec .busy none)) l:=by
      intro l
      induction l with
      |nil=>intro _;trivial
      |cons d l ih=>
       rintro⟨⟨D,rfl,h1,h2,h3⟩,h4⟩
       refine⟨⟨D,rfl,?_,?_,h3⟩,ih h4⟩
       ·have:(wo w (rec .ready none)).heap.size≤D:=h1
        show(wo w (rec .busy none)).heap.size≤D
        rw[pY] at this ⊢;exact this
       ·rw[World.putObj_heap_other (by rintro rfl;rw[hl2,hrec] at h2;cases h2)];exact h2
     obtain⟨m1,m0,hm1,hm2⟩:=hS2.defers
     exact⟨m1,m0,hm1,this _ hm2⟩
    have hW2:=nX (cx:=cO (rec .busy none)) hm body _ _ hokb (hL2 (cO (rec .busy none)) rfl (hFO _)) ι2 a1 _ hS3
    refine wpIn_mono hW2 ?_
    rintro e a3 W3 ⟨ι3,A3,hS4,L3,rfl,hL3⟩
    obtain⟨hl3,-⟩:=rQ (hrC _ _) hS4.h
    have hl3':=hl3
    rw[hrec] at hl3'
    cases e with
    |normal=>
     obtain⟨s',r',hi',hcut⟩:=hL3
     have hS5:Sat (cO (rec .busy none)) ι3 (LS.toAS ⟨E,L3.box,L3.next⟩) a0 W3:=⟨hS4.h,hsz0,⟨[],[],rfl,trivial⟩,henv hS4.h⟩
     have hS6:=hS5.cut hcut.cut
     obtain⟨u1,u2⟩:=zQ (o':=rec .ready none) (hrC _ _) (hrC _ _) hS6.h
     have hend:=run_endRound (P:=P) none hl3'
     refine⟨_,_,hend,.inl ⟨rfl,s',eB (fun b=>decide (b<(I s').2)) r' ι3,by rw[hi',hi],?_⟩⟩
     have:(Obj.loop {state:=if(none:Option Code).isNone then .ready else .done,pending:=none,fn,tmps:=a.tmps,params:=ps,assign,body,defers:=w.heap.size})=rec .ready none:=by rw[hrec];rfl
     rw[this]
     exact⟨u1,hsz0,⟨[],[],rfl,trivial⟩,fun t=>u2 _ _ (hS6.env t)⟩
    |ret=>
     have hS5:Sat (cO (rec .busy none)) ι3 (LS.toAS ⟨E,L3.box,L3.next⟩) a0 W3:=⟨hS4.h,hsz0,⟨[],[],rfl,trivial⟩,henv hS4.h⟩
     obtain⟨u1,u2⟩:=zQ (o':=rec .done (some .ret)) (hrC _ _) (hrC _ _) hS5.h
     have hend:=run_endRound (P:=P) (some .ret) hl3'
     refine⟨_,_,hend,.inr ⟨rfl,.ret,.ret,L3.box,L3.next,ι3,.inl ⟨rfl,rfl⟩,hL3,?_⟩⟩
     have:(Obj.loop {state:=if(some Code.ret).isNone then .ready else .done,pending:=some .ret,fn,tmps:=a.tmps,params:=ps,assign,body,defers:=w.heap.size})=rec .done (some .ret):=by rw[hrec];rfl
     rw[this]
     exact⟨u1,hsz0,⟨[],[],rfl,trivial⟩,fun t=>u2 _ _ (hS5.env t)⟩
    |exit id=>
     have hS5:Sat (cO (rec .busy none)) ι3 (LS.toAS ⟨E,L3.box,L3.next⟩) a0 W3:=⟨hS4.h,hsz0,⟨[],[],rfl,trivial⟩,henv hS4.h⟩
     obtain⟨u1,u2⟩:=zQ (o':=rec .done (some (.exit id))) (hrC _ _) (hrC _ _) hS5.h
     have hend:=run_endRound (P:=P) (some (.exit id)) hl3'
     refine⟨_,_,hend,.inr ⟨rfl,.exit id,.exit id,L3.box,L3.next,ι3,.inr ⟨id,rfl,rfl⟩,hL3,?_⟩⟩
     have:(Obj.loop {state:=if(some (Code.exit id)).isNone then .ready else .done,pending:=some (.exit id),fn,tmps:=a.tmps,params:=ps,assign,body,defers:=w.heap.size})=rec .done (some (.exit id)):=by rw[hrec];rfl
     rw[this]
     exact⟨u1,hsz0,⟨[],[],rfl,trivial⟩,fun t=>u2 _ _ (hS5.env t)⟩
    |_=>exact hL3.elim
   |_=>exact hL2.elim
  ·obtain⟨h0,k0⟩:=DY (o:=rec .ready none) p hs.h
   exact⟨s₀,ι0,hi0,h0,hs.size,⟨[],[],rfl,trivial⟩,fun t=>k0 _ _ (hs.env t)⟩
theorem SI {σ:Type} {g:Operand} {ps:Array Nat} {assign body:Code} {Q:Exit→LS→Prop} {A:LS} (hm:P.follows .mixedOrders=true) (hro:cx.R=none) (p:Nat) (E:Env) (I:σ→ay×Nat) (idx:σ→Nat) (r:Nat→Nat) (s₀:σ)
 {gf:FuncId} {caps:List AV} {xs:List (Array Value)} (ys:List (List AV)) (hit:Iter P gf caps xs) (hcg:bn P gf) (h₀:LCut cx r A ⟨E,(I s₀).1,(I s₀).2⟩) (hi0:idx s₀=0) (hF:∀b g,cx.F b=some g→b<p)
 (hE0:(E.all fun q=>q.2.names fun b=>decide (b<p))=true) (hg:aI E g= .fn (.func gf) [] caps) (hgd:caps.all AV.isData=true)
 (hlen:xs.length=ys.length) (hxy:∀(k:Nat) (x:Array Value) (y:List AV),xs[k]? =some x→ys[k]? =some y→x.size=y.length∧x.size=ps.size∧∀(i:Nat) (v:Value) (a:AV),x[i]? =some v→y[i]? =some a→∀ι M w,RepA ι M w v a)
 (hps:ps.toList.all (fun t=>decide (t<cx.N))=true) (hoka:dn cx.N assign=true) (hokb:dn cx.N body=true)
 (round:∀s y,ys[idx s]? =some y→∀cx':Cx,cx'.N=cx.N→(∀b g,cx'.F b=some g→b<p)→
   W P cx' assign (gX (fun A1=>∀cx'':Cx,cx''.N=cx.N→(∀b g,cx''.F b=some g→b<p)→W P cx'' body (DZ cx'' E I idx (idx s) Q) A1) (fun _ _=>False)) ⟨zR ps.toList y E,(I s).1,(I s).2⟩)
 (done:∀s,idx s=ys.length→Q .normal ⟨E,(I s).1,(I s).2⟩):aY P cx (.rangeFunc g ps assign body) Q A:=by
 refine D6 hm hro p E I idx r s₀ ys (fun lb l J Jx W M h1 h2 h3 j1 j2 j3 j4 j5=> ?_) hcg h₀ hi0 hF hE0 hg hgd (fun y hy=> ?_) hps hoka hokb round done
 ·rw[←hlen]
  refine hit lb l J Jx W M h1 h2 h3 j1 j2 j3 (fun k W1 x hJ hx=> ?_) j5
  have hk:=(List.getElem?_eq_some_iff.1 hx).1
  have hy:ys[k]? =some ys[k]:=List.getElem?_eq_getElem byOmega
  exact j4 k W1 W1 x _ hJ (.refl _ _) hy (hxy k x _ hx hy).1 fun i v a hv ha ι=>(hxy k x _ hx hy).2.2 i v a hv ha ι _ _
 ·obtain⟨k,hk,rfl⟩:=List.getElem_of_mem hy
  obtain⟨z1,z2,-⟩:=hxy k _ _ (List.getElem?_eq_getElem byOmega) (List.getElem?_eq_getElem hk)
  omega
end Go.Proofs.YtlikpcpllahalaaGreat.V
