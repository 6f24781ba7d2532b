/- Parts of the proof. -/
import Derived.Test.YtlikpcpllahalaaGreatG21
import Derived.Test.YtlikpcpllahalaaGreatG13
import Derived.Test.YtlikpcpllahalaaGreatG20
set_option maxHeartbeats 16000000
set_option linter.unusedSimpArgs false
set_option linter.unusedVariables false
namespace Go.Proofs.YtlikpcpllahalaaGreat.V
open Go.RowKit
set_option maxRecDepth 100000
section
attribute [local go_sem] Option.toList_some Option.toList_none
def ic (s:Sl) (d:Int):Sl:=⟨d,s.to_,s.st,s.yearly⟩
attribute [local go_sem] ic bN
theorem uN (l:List Sl):(aa Sl.flat l).length=l.length*9:=dU (F:=Sl.flat) (k:=9) (fun _=>rfl) l
theorem xP (l:List Sl) (q:Sl):aa Sl.flat (l++[q])=aa Sl.flat l++q.flat:=by simp[aa]
@[go_sem] theorem rowS_ren (r:Nat→Nat) (l:List Sl):(aa Sl.flat l).map (AV.ren r)=aa Sl.flat l:=jh (fun x r=>by simp[Sl.flat,go_sem]) r l
@[go_sem] theorem TU (p:Nat→Bool) (l:List Sl):(aa Sl.flat l).all (AV.names p)=true:=ji (fun x p=>by simp[Sl.flat,go_sem]) p l
@[go_sem] theorem rowS_nms' (p:Nat→Bool) (l:List Sl):(∀x,x∈aa Sl.flat l→AV.names p x=true)↔True:=by
 have:=TU p l
 rw[List.all_eq_true] at this
 exact⟨fun _=>trivial,fun _=>this⟩
@[go_sem] theorem rowS_nz (l:List Sl) (q:Sl):(aa Sl.flat (l++[q])=[])=False:=by
 refine eq_false fun h=> ?_
 have:=uN (l++[q])
 rw[h] at this
 simp at this
theorem JM (l:List Sl) (q:Sl):List.take 9 (List.drop (l.length*9) (aa Sl.flat (l++[q])))=q.flat:=by
 rw[xP,←uN l,List.drop_left];rfl
theorem TV (m:List Sl) (q:Sl) (d:Int):List.take (m.length*9+1) (aa Sl.flat (m++[q]))++[int d]++List.drop (m.length*9+1+1) (aa Sl.flat (m++[q]))=aa Sl.flat (m++[bN q d]):=by
 have hQ:=uN m
 rw[xP,xP,List.take_append,List.drop_append,List.take_of_length_le byOmega,List.drop_of_length_le byOmega,hQ]
 simp[bN,Sl.flat,show m.length*9+1-m.length*9=1 by omega,show m.length*9+1+1-m.length*9=2 by omega]
theorem JN (s:Sl) (d:Int) (h:s.from_=d):aC Tryz.prog 184 [(0,⟨200,s.flat⟩),(1,⟨196,[.v (.slice none 0 0)]⟩)] [int d,.ptr 0 0,.ptr 1 0] (.tup []) [(0,some ⟨200,(ic s d).flat⟩)]:=by
 subst h
 have w0:IntKind.i64.wrap (((0:Nat):Int)-1)= -1:=rfl
 have c0:((0:Int)≤ -1)=False:=by simp
 refine aW 2 Tryz.func184 (fun cx hN hR hF hL=> ?_)
 exact run w0 tt
theorem JO (s:Sl) (d:Int) (h:¬s.from_=d):aC Tryz.prog 184 [(0,⟨200,s.flat⟩),(1,⟨196,[.v (.slice none 0 0)]⟩)] [int d,.ptr 0 0,.ptr 1 0] (.tup [])
 [(0,some ⟨200,(ic s d).flat⟩),(1,some ⟨196,[.osl 2 9 0 1]⟩),(2,some ⟨200,aa Sl.flat [bN s d]⟩)]:=by
 have w0:IntKind.i64.wrap (((0:Nat):Int)-1)= -1:=rfl
 have c0:((0:Int)≤ -1)=False:=by simp
 refine fu 3 Tryz.func184 rfl (Nat.le_of_ble_eq_true rfl) (by simp[go_sem]) fun cx hN hR hF hL=> ?_;apply fw;(case hA=>(simp only[go_sem,↓reduceIte];rfl));(case hB=>(simp only[go_sem,↓reduceIte];rfl))
 refine iM (aL ?_)
 refine' run (I w0 (I c0 (I (decide_eq_false (of_eq_false c0)) (I (eq_false h) (decide_eq_false h))))) (lv (fun hq=>fun hq=>lf ?_) (lv (fun hq=>fun hq=>o4 fun K hK=> ?_) tt))
 ·refine⟨gZ 2 5027 2 5027,⟨[],[(0,some ⟨200,(ic s d).flat⟩),(1,some ⟨196,[.osl 2 9 0 1]⟩),(2,some ⟨200,aa Sl.flat [bN s d]⟩)],3⟩,?_,?_⟩
  ·simp only[go_sem,↓reduceIte,hF]
   refine⟨by simp[aa,Sl.flat],fun b g h=> ?_⟩
   have:=hF b g h
   simp[inl] at this
   rcases this with rfl|rfl<;>simp
  ·exact run tt tt
 ·simp[maxLen]
theorem JP (s q:Sl) (m:List Sl) (d:Int) (hm:m.length≤100000) (h:s.from_=d):aC Tryz.prog 184 [(0,⟨200,s.flat⟩),(1,⟨196,[.osl 2 9 0 (m.length+1)]⟩),(2,⟨200,aa Sl.flat (m++[q])⟩)] [int d,.ptr 0 0,.ptr 1 0] (.tup []) [(0,some ⟨200,(ic s d).flat⟩)]:=by
 subst h
 have w0:IntKind.i64.wrap (((m.length+1:Nat):Int)-1)=(m.length:Int):=wE
 refine aW 3 Tryz.func184 (fun cx hN hR hF hL=> ?_)
 exact run w0 tt
theorem JQ (s q:Sl) (m:List Sl) (d:Int) (hm:m.length≤100000) (h:¬s.from_=d) (hq:q.st=s.st):aC Tryz.prog 184 [(0,⟨200,s.flat⟩),(1,⟨196,[.osl 2 9 0 (m.length+1)]⟩),(2,⟨200,aa Sl.flat (m++[q])⟩)] [int d,.ptr 0 0,.ptr 1 0] (.tup []) [(0,some ⟨200,(ic s d).flat⟩),(2,some ⟨200,aa Sl.flat (m++[bN q d])⟩)]:=by
 have w0:IntKind.i64.wrap (((m.length+1:Nat):Int)-1)=(m.length:Int):=wE
 have c0:((0:Int)≤(m.length:Int))=True:=by simp
 have k:=JK q (bN s d)
 rw[show decide (q.st=(bN s d).st)=true from decide_eq_true hq] at k
 have hcap:(m.length*9+9≤(m.length+1)*9)=True:=eT
 have hlast:=JM m q
 have hlen:=uN (m++[q])
 refine aW 3 Tryz.func184 (fun cx hN hR hF hL=> ?_)
 refine' aj (I w0 (I c0 (I (decide_eq_true (of_eq_true c0)) (I (eq_false h) (I (decide_eq_false h) (I hlast (I hlen hcap))))))) k (lv (fun hq=>fun hq=>lf ?_) tt)
 all_goals exact congrArg some (congrArg (Bx.mk _) (TV m q d))
theorem JR (s q:Sl) (m:List Sl) (d:Int) (hm:m.length≤100000) (h:¬s.from_=d) (hq:¬q.st=s.st):aC Tryz.prog 184 [(0,⟨200,s.flat⟩),(1,⟨196,[.osl 2 9 0 (m.length+1)]⟩),(2,⟨200,aa Sl.flat (m++[q])⟩)] [int d,.ptr 0 0,.ptr 1 0] (.tup [])
 [(0,some ⟨200,(ic s d).flat⟩),(1,some ⟨196,[.osl 3 9 0 (m.length+1+1)]⟩),(2,none),(3,some ⟨200,aa Sl.flat (m++[q]++[bN s d])⟩)]:=by
 have w0:IntKind.i64.wrap (((m.length+1:Nat):Int)-1)=(m.length:Int):=wE
 have c0:((0:Int)≤(m.length:Int))=True:=by simp
 have k:=JK q (bN s d)
 rw[show decide (q.st=(bN s d).st)=false from decide_eq_false hq] at k
 have hcap:(m.length*9+9≤(m.length+1)*9)=True:=eT
 have hlast:=JM m q
 have hlen:=uN (m++[q])
 refine fu 4 Tryz.func184 rfl (Nat.le_of_ble_eq_true rfl) (by simp[go_sem]) fun cx hN hR hF hL=> ?_;apply fw;(case hA=>(simp only[go_sem,↓reduceIte];rfl));(case hB=>(simp only[go_sem,↓reduceIte];rfl))
 refine iM (aL ?_)
 refine' aj (I w0 (I c0 (I (decide_eq_true (of_eq_true c0)) (I (eq_false h) (I (decide_eq_false h) (I hlast (I hlen hcap))))))) k (lv (fun hq=>fun hq=>lf ?_) (lv (fun hq=>fun hq=>o4 fun K hK=> ?_) tt))
 ·refine⟨gZ 3 5028 3 5028,⟨[],[(0,some ⟨200,(ic s d).flat⟩),(1,some ⟨196,[.osl 3 9 0 (m.length+1+1)]⟩),(3,some ⟨200,aa Sl.flat (m++[q]++[bN s d])⟩)],4⟩,?_,?_⟩
  ·simp only[go_sem,↓reduceIte,hF,xP (m++[q]) (bN s d),List.map_append,List.all_append]
   refine⟨by rw[xP (m++[q])];rfl,fun b g h=> ?_⟩
   have:=hF b g h
   simp[inl] at this
   rcases this with rfl|rfl|rfl<;>simp
  ·exact run tt tt
 ·simp[maxLen];omega
end
def swp {α:Type} (l:List α) (i j:Nat):List α:=match l[i]?,l[j]? with|some x,some y=>(l.set i y).set j x|_,_=>l
theorem TW {α:Type} (l:List α) (i j:Nat):(swp l i j).length=l.length:=by
 unfold swp
 split<;>simp
theorem TY {α:Type} (A B C:List α) (x y:α) (i j:Nat) (hi:i=A.length) (hj:j=A.length+1+B.length):swp (A++x::(B++y::C)) i j=A++y::(B++x::C):=by
 subst hi hj
 have h1:(A++x::(B++y::C))[A.length]? =some x:=by simp
 have h2:(A++x::(B++y::C))[A.length+1+B.length]? =some y:=by
  rw[List.getElem?_append_right byOmega,show A.length+1+B.length-A.length=B.length+1 by omega,List.getElem?_cons_succ,List.getElem?_append_right byOmega]
  simp
 unfold swp
 simp only[h1,h2]
 rw[List.set_append_right _ _ byOmega,Nat.sub_self,List.set_cons_zero,List.set_append_right _ _ byOmega,show A.length+1+B.length-A.length=B.length+1 by omega,List.set_cons_succ,List.set_append_right _ _ byOmega,Nat.sub_self,List.set_cons_zero]
def bI {α:Type} (l:List α) (a b:Nat):Nat→List α
 |0=>l
 |i+1=>swp (bI l a b i) (a+i) (b+i)
theorem oG {α:Type} (l:List α) (a b:Nat):∀i,(bI l a b i).length=l.length
 |0=>rfl
 |i+1=>by rw[bI,TW,oG l a b i]
theorem rY {α:Type} (l:List α) (a b:Nat):∀(n:Nat) (X U V W Y:List α),l=X++(U++(V++(W++Y)))→U.length=n→W.length=n→a=X.length→b=X.length+U.length+V.length→bI l a b n=X++(W++(V++(U++Y)))
 |0,X,U,V,W,Y,hl,hu,hw,ha,hb=>by
  obtain rfl:U=[]:=List.eq_nil_of_length_eq_zero hu
  obtain rfl:W=[]:=List.eq_nil_of_length_eq_zero hw
  simpa[bI] using hl
 |n+1,X,U,V,W,Y,hl,hu,hw,ha,hb=>by
  rcases List.eq_nil_or_concat U with rfl|⟨U,u,rfl⟩
  ·simp at hu
  rcases List.eq_nil_or_concat W with rfl|⟨W,w,rfl⟩
  ·simp at hw
  simp only[List.concat_eq_append,List.length_append,List.length_singleton] at hu hw hb hl ⊢
  have ih:=rY l a b n X U (u::V) W (w::Y) (by rw[hl];simp) byOmega byOmega ha (by simp;omega)
  rw[bI,ih]
  have:=TY (X++W) (V++U) Y u w (a+n) (b+n) (by simp;omega) (by simp;omega)
  simp only[List.append_assoc,List.cons_append,List.nil_append] at this ⊢
  exact this
theorem AQ {α:Type} (A C:List α) (p x:α) (i j:Nat) (hi:i=A.length+1) (hj:j=A.length):((A++p::x::C).set i p).set j x=A++x::p::C:=by
 subst hi hj
 rw[List.set_append_right _ _ byOmega,show A.length+1-A.length=1 by omega,List.set_cons_succ,List.set_cons_zero,List.set_append_right _ _ byOmega,Nat.sub_self,List.set_cons_zero]
theorem JS {α:Type} (A C:List α) (p x:α) (i j:Nat) (hi:i=A.length) (hj:j=A.length+1):((A++p::x::C).set i x).set j p=A++x::p::C:=by
 subst hi hj
 rw[List.set_append_right _ _ byOmega,Nat.sub_self,List.set_cons_zero,List.set_append_right _ _ byOmega,show A.length+1-A.length=1 by omega,List.set_cons_succ,List.set_cons_zero]
theorem iQ {α:Type} (A C:List α) (x:α) (i:Nat) (hi:i=A.length):(A++x::C)[i]? =some x:=by
 subst hi;simp
theorem Es (h:History) (l:List Int) (a b n:Nat) (ha:a+n≤l.length) (hb:b+n≤l.length) (hl:l.length≤100000) (hne:l≠ []):aC Tryz.prog 253 [(0,⟨3,aa ak l⟩),(1,⟨131,h.flat⟩)] [.osl 0 1 0 l.length,int a,int b,int n,.fn (.func 205) [] [.ptr 1 0]] (.tup []) [(0,some ⟨3,aa ak (bI l a b n)⟩)]:=by
 have hne2:=Jz hne
 refine aW 2 Tryz.func253 (fun cx hN hR hF hL=> ?_) (by simp[go_sem,hne2,p8])
 have hF2:∀b g,cx.F b=some g→b<3000:=fun b g h=>by
  have:=hF b g h
  simp[inl] at this
  omega
 refine' run tt (l1 ?_)
 refine aX (σ:={i:Nat // i≤n}) (fun s=>⟨[(10,int s.1),(0,.osl 0 1 0 l.length),(1,int a),(2,int b),(3,int n)],[(0,some ⟨3,aa ak (bI l a b s.1)⟩),(1,some ⟨131,h.flat⟩)],3000⟩) (fun s=>n-s.1) id ⟨0,by omega⟩ ?_ ?_
 ·simp only[go_sem,↓reduceIte,hF]
  exact⟨rfl,rfl,hF2⟩
 ·rintro⟨i,h1⟩
  by_cases hi:i<n
  ·have e2:=wS i
   have w1:IntKind.i64.wrap ((a:Int)+i)=((a+i:Nat):Int):=wE
   have w2:IntKind.i64.wrap ((b:Int)+i)=((b+i:Nat):Int):=wE
   have hL1:a+i<(bI l a b i).length:=by rw[oG];omega
   have hL2:b+i<(bI l a b i).length:=by rw[oG];omega
   have hx:(bI l a b i)[a+i]? =some (bI l a b i)[a+i]:=List.getElem?_eq_getElem hL1
   have hy:(bI l a b i)[b+i]? =some (bI l a b i)[b+i]:=List.getElem?_eq_getElem hL2
   generalize (bI l a b i)[a+i]=x at hx
   generalize (bI l a b i)[b+i]=y at hy
   have hsw:bI l a b (i+1)=((bI l a b i).set (a+i) y).set (b+i) x:=by
    rw[bI,swp]
    simp only[hx,hy]
   have r1:=iG hx
   have r2:=iG hy
   have s1:=mW (bI l a b i) (a+i) y hL1
   have s2:=mW ((bI l a b i).set (a+i) y) (b+i) x (by rw[List.length_set];exact hL2)
   rw[←hsw] at s2
   have hn1:(aa ak (bI l a b i)).length=l.length:=by rw[cz,oG]
   have hn2:(aa ak ((bI l a b i).set (a+i) y)).length=l.length:=by rw[cz,List.length_set,oG]
   have hz:¬aa ak (bI l a b i)=[]:=by
    intro e
    have:=congrArg List.length e
    rw[hn1] at this
    simp at this
    exact hne this
   refine' run (I e2 (I w1 (I w2 (I r1 (I r2 (I s1 (I s2 (I hn1 hn2)))))))) (l3 fun hq=> ?_)
   ·refine⟨⟨i+1,by omega⟩,id,?_,mS⟩
    simp only[go_sem,↓reduceIte,hF]
    exact hF2
   all_goals(first|omega|exact hz)
  ·have:i=n:=byOmega
   subst this
   exact run tt tt
theorem TZ (h:History) (X U V Y:List Int) (m:Nat) (hm:m=X.length+U.length) (hU:0<U.length) (hV:0<V.length) (hl:(X++(U++(V++Y))).length≤100000):
 aC Tryz.prog 250 [(0,⟨3,aa ak (X++(U++(V++Y)))⟩),(1,⟨131,h.flat⟩)] [.osl 0 1 0 (X++(U++(V++Y))).length,int X.length,int m,int (m+V.length:Nat),.fn (.func 205) [] [.ptr 1 0]] (.tup []) [(0,some ⟨3,aa ak (X++(V++(U++Y)))⟩)]:=by
 have hne2:=fF (l:=X++(U++(V++Y))) (by simp;omega)
 generalize hLL:X++(U++(V++Y))=l at *
 have hlen:X.length+U.length+V.length+Y.length=l.length:=by rw[←hLL];simp;omega
 have w1:IntKind.i64.wrap ((m:Int)-X.length)=(U.length:Nat):=wE
 have w2:IntKind.i64.wrap (((m+V.length:Nat):Int)-m)=(V.length:Nat):=wE
 refine aW 2 Tryz.func250 (fun cx hN hR hF hL=> ?_) (by simp[go_sem,hne2,p8])
 have hF2:∀b g,cx.F b=some g→b<3000:=fun b g h=>by
  have:=hF b g h
  simp[inl] at this
  omega
 refine' run (I w1 w2) (l1 ?_)
 refine iD mixed (σ:={p:List Int×List Int×List Int×List Int // p.1.length+p.2.1.length=m∧(p.1++(p.2.1++(p.2.2.1++p.2.2.2))).length=l.length∧0<p.2.1.length∧0<p.2.2.1.length∧p.1++(p.2.2.1++(p.2.1++p.2.2.2))=X++(V++(U++Y))})
  (fun s=>⟨[(10,int s.1.2.1.length),(11,int s.1.2.2.1.length),(0,.osl 0 1 0 l.length),(2,int m),(4,.fn (.func 205) [] [.ptr 1 0])],[(0,some ⟨3,aa ak (s.1.1++(s.1.2.1++(s.1.2.2.1++s.1.2.2.2)))⟩),(1,some ⟨131,h.flat⟩)],3000⟩) (fun s=>s.1.2.1.length+s.1.2.2.1.length) id ⟨(X,U,V,Y),hm.symm,by rw[hLL],hU,hV,rfl⟩ (by rw[hN];kernel_rfl) ?_ ?_
 ·simp only[go_sem,↓reduceIte,hF]
  rw[hLL]
  exact⟨rfl,hF2⟩
 ·rintro⟨⟨X',U',V',Y'⟩,g1,g2,g3,g4,g5⟩
  simp only at g1 g2 g3 g4 g5
  simp only[List.length_append] at g2
  by_cases hi:U'.length=V'.length
  ·have w3:IntKind.i64.wrap ((m:Int)-U'.length)=(X'.length:Nat):=wE
   have c1:=Es h (X'++(U'++(V'++Y'))) X'.length m U'.length (by simp only[List.length_append];omega) (by simp only[List.length_append];omega) (by simp only[List.length_append];omega) (by intro e;have:=congrArg List.length e;simp only[List.length_append,List.length_nil] at this;omega)
   rw[rY _ _ _ _ X' U' [] V' Y' ai rfl hi.symm rfl (by simp only[List.length_nil];omega),List.nil_append,g5] at c1
   have ll:(X'++(U'++(V'++Y'))).length=l.length:=by simp;omega
   rw[ll] at c1
   refine' run (I w3 (eq_true hi)) (lv (fun hq=>o4 fun K hK=> ?_) tt)
   (refine aB [0,1] (c1) ?_)
   (revert K;refine bK ?_;exact run tt tt)
  ·by_cases hj:V'.length<U'.length
   ·obtain⟨U1,U2,he,hu1⟩:∃U1 U2,U'=U1++U2∧U1.length=V'.length:=⟨U'.take V'.length,U'.drop V'.length,by simp,by simp;omega⟩
    have hel:U'.length=U1.length+U2.length:=by rw[he,List.length_append]
    have w3:IntKind.i64.wrap ((m:Int)-U'.length)=(X'.length:Nat):=wE
    have w4:IntKind.i64.wrap ((U'.length:Int)-V'.length)=(U2.length:Nat):=wE
    have c1:=Es h (X'++(U'++(V'++Y'))) X'.length m V'.length (by simp only[List.length_append];omega) (by simp only[List.length_append];omega) (by simp only[List.length_append];omega) (by intro e;have:=congrArg List.length e;simp only[List.length_append,List.length_nil] at this;omega)
    rw[rY _ _ _ _ X' U1 U2 V' Y' (by rw[he];simp) hu1 rfl rfl byOmega] at c1
    have ll:(X'++(U'++(V'++Y'))).length=l.length:=by simp only[List.length_append];omega
    rw[ll] at c1
    refine' run (I w3 (I w4 (I (eq_false hi) (eq_true hj)))) (lv (fun hq=>fun hq=>o4 fun K hK=> ?_) tt)
    (refine aB [0,1] (c1) ?_)
    (revert K;refine bK ?_;refine' run w4 (l1 ?_))
    refine⟨⟨(X'++V',U2,U1,Y'),by simp only[List.length_append];omega,by simp only[List.length_append];omega,by simp only;omega,by simp only;omega,by rw[←g5,he];simp⟩,id,?_,by simp only;omega⟩
    simp only[go_sem,↓reduceIte,hF,hu1,List.append_assoc]
    exact hF2
   ·obtain⟨V1,V2,he,hv2⟩:∃V1 V2,V'=V1++V2∧V2.length=U'.length:=⟨V'.take (V'.length-U'.length),V'.drop (V'.length-U'.length),by simp,by simp;omega⟩
    have hel:V'.length=V1.length+V2.length:=by rw[he,List.length_append]
    have w3:IntKind.i64.wrap ((m:Int)-U'.length)=(X'.length:Nat):=wE
    have w4:IntKind.i64.wrap ((V'.length:Int)-U'.length)=(V1.length:Nat):=wE
    have w5:IntKind.i64.wrap ((m:Int)+V'.length)=((m+V'.length:Nat):Int):=wE
    have w6:IntKind.i64.wrap (((m+V'.length:Nat):Int)-U'.length)=((m+V1.length:Nat):Int):=wE
    have c1:=Es h (X'++(U'++(V'++Y'))) X'.length (m+V1.length) U'.length (by simp only[List.length_append];omega) (by simp only[List.length_append];omega) (by simp only[List.length_append];omega) (by intro e;have:=congrArg List.length e;simp only[List.length_append,List.length_nil] at this;omega)
    rw[rY _ _ _ _ X' U' V1 V2 Y' (by rw[he];simp) rfl hv2 rfl byOmega] at c1
    have ll:(X'++(U'++(V'++Y'))).length=l.length:=by simp only[List.length_append];omega
    rw[ll] at c1
    refine' run (I w3 (I w4 (I w5 (I w6 (I (eq_false hi) (eq_false hj)))))) (lv (fun hq=>fun hq=>o4 fun K hK=> ?_) tt)
    (refine aB [0,1] (c1) ?_)
    (revert K;refine bK ?_;refine' run w4 (l1 ?_))
    refine⟨⟨(X',V2,V1,U'++Y'),by simp only;omega,by simp only[List.length_append];omega,by simp only;omega,by simp only;omega,by rw[←g5,he];simp⟩,id,?_,by simp only;omega⟩
    simp only[go_sem,↓reduceIte,hF,hv2,List.append_assoc]
    exact hF2
def gm (a b:Int):Int:=if a<b then -1 else if b<a then 1 else 0
theorem qg (a b:Int):decide (gm a b<0)=decide (a<b):=by
 unfold gm
 by_cases h:a<b
 ·simp[h]
 ·by_cases h2:b<a<;>simp[h,h2]
theorem JU (a b:Int):Fun Tryz.prog 116 [int a,int b] (int (gm a b)):=by
 refine af Tryz.func116 fun cx hN hR hF hL=> ?_
 refine' aj tt JD (lv (fun hq=>fun hq=>fun hq=>lf ?_) (lv (fun hq=>fun hq=>fun hq=>fun hq=>lf ?_) (lv (fun hq=>fun hq=>fun hq=>fun hq=>lf ?_) tt)))
 ·simp[gm,hq]
 ·rename_i h
  simp[gm,hq,show ¬a<b by omega]
 ·rename_i h
  simp[gm,show ¬a<b by omega,show ¬b<a by omega]
def ed (h:History) (x:Int):Int:=((h.changes[x.toNat]?).map Change.day).getD 0
def placeOf (h:History) (x:Int):Prop:=0≤x∧x<h.changes.length
def aP (h:History) (x y:Int):Bool:=decide (ed h x<ed h y)
theorem xQ (h:History) (x y:Int) (hx:placeOf h x) (hy:placeOf h y):Fun Tryz.prog 205 [int x,int y,.pp h.flat] (int (gm (ed h x) (ed h y))):=by
 obtain⟨i,rfl⟩:∃i:Nat,x=i:=⟨x.toNat,by have:=hx.1;omega⟩
 obtain⟨j,rfl⟩:∃j:Nat,y=j:=⟨y.toNat,by have:=hy.1;omega⟩
 have hi2:i<h.changes.length:=by have:=hx.2;omega
 have hj2:j<h.changes.length:=by have:=hy.2;omega
 have hi:h.changes[i]? =some h.changes[i]:=List.getElem?_eq_getElem hi2
 have hj:h.changes[j]? =some h.changes[j]:=List.getElem?_eq_getElem hj2
 have di:ed h (i:Int)=(h.changes[i]).day:=by simp[ed,hi]
 have dj:ed h (j:Int)=(h.changes[j]).day:=by simp[ed,hj]
 rw[di,dj]
 refine af Tryz.func205 fun cx hN hR hF hL=> ?_
 exact aj (I hi hj) JU tt
def dV {α:Type} (lt:α→α→Bool) (x:α):List α→List α
 | []=>[x]
 |p::P=>if lt x p then p::dV lt x P else x::p::P
def ig {α:Type} (lt:α→α→Bool) (S:List α):List α:=S.foldl (fun r x=>dV lt x r) []
def aG {α:Type} (lt:α→α→Bool) (S:List α):List α:=(ig lt S).reverse
theorem JV {α:Type} (lt:α→α→Bool) (x:α):∀P,(dV lt x P).length=P.length+1
 | []=>rfl
 |p::P=>by
  rw[dV]
  split
  ·simp[JV lt x P]
  ·simp
theorem qh {α:Type} (lt:α→α→Bool) (S:List α) (x:α):ig lt (S++[x])=dV lt x (ig lt S):=by simp[ig]
theorem bZ {α:Type} (lt:α→α→Bool) (S:List α):(aG lt S).length=S.length:=by
 unfold aG
 rw[List.length_reverse]
 rcases List.eq_nil_or_concat S with rfl|⟨S,x,rfl⟩
 ·rfl
 ·have ih:=bZ lt S
  unfold aG at ih
  rw[List.length_reverse] at ih
  rw[List.concat_eq_append,qh,JV,ih]
  simp
termination_by S.length
decreasing_by simp_all
theorem JW {α:Type} {lt:α→α→Bool} {x:α}:∀(Q P:List α),(∀q,q∈Q→lt x q=true)→(∀p,P.head?=some p→lt x p=false)→dV lt x (Q++P)=Q++x::P
 | [],[],_,_=>rfl
 | [],p::P,_,h=>by
   rw[List.nil_append,dV,h p rfl]
   rfl
 |q::Q,P,hq,h=>by
  rw[List.cons_append,dV,hq q ai,if_pos rfl,JW Q P (fun z hz=>hq z (by simp[hz])) h,List.cons_append]
theorem AR {α:Type} {lt:α→α→Bool} {S P Q:List α} {x:α} (h:P++Q=aG lt S) (hq:∀q,q∈Q→lt x q=true) (hp:∀p,P.getLast?=some p→lt x p=false):aG lt (S++[x])=P++x::Q:=by
 unfold aG at h ⊢
 have h2:ig lt S=Q.reverse++P.reverse:=by
  have:=congrArg List.reverse h
  rw[List.reverse_reverse,List.reverse_append] at this
  exact this.symm
 rw[qh,h2,JW _ _ (fun q hm=>hq q (by simpa using hm)) (fun p hm=>hp p (by simpa using hm))]
 simp
theorem fO {α:Type} {lt:α→α→Bool} {S:List α} {y:α}:y∈aG lt S↔y∈S:=by
 have ins:∀(x:α) (P:List α),y∈dV lt x P↔y=x∨y∈P:=by
  intro x P
  induction P with
  |nil=>simp[dV]
  |cons p P ih=>
   rw[dV]
   split
   ·simp[ih];grind
   ·simp
 unfold aG
 rw[List.mem_reverse]
 unfold ig
 have key:∀(S r:List α),y∈S.foldl (fun r x=>dV lt x r) r↔y∈S∨y∈r:=by
  intro S
  induction S with
  |nil=>simp
  |cons s S ih=>intro r;rw[List.foldl_cons,ih,ins];simp;grind
 rw[key];simp
theorem JX (h:History) (X S Y:List Int) (hl:(X++(S++Y)).length≤100000) (h0:0<(X++(S++Y)).length) (hS:∀x,x∈S→placeOf h x):
 aC Tryz.prog 243 [(0,⟨3,aa ak (X++(S++Y))⟩),(1,⟨131,h.flat⟩)] [.osl 0 1 0 (X++(S++Y)).length,int X.length,int (X.length+S.length:Nat),.fn (.func 205) [] [.ptr 1 0]] (.tup []) [(0,some ⟨3,aa ak (X++(aG (aP h) S++Y))⟩)]:=by
 have hne2:=fF h0
 have hlen:(X++(S++Y)).length=X.length+S.length+Y.length:=by simp;omega
 rw[hlen] at hl
 generalize hn:(X++(S++Y)).length=n at *
 generalize ha:X.length=a at *
 have hsl:(aG (aP h) S).length=S.length:=bZ _ _
 refine aW 2 Tryz.func243 (fun cx hN hR hF hL=> ?_) (by simp[go_sem,hne2,p8])
 have hF2:∀b g,cx.F b=some g→b<3000:=fun b g h=>by
  have:=hF b g h
  simp[inl] at this
  omega
 have w1:=wS a
 refine' run w1 (l1 ?_)
 refine aX (σ:={i:Nat // i≤S.length∨i=1}) (fun s=>⟨[(8,int (a+s.1:Nat)),(0,.osl 0 1 0 n),(1,int a),(2,int (a+S.length:Nat)),(3,.fn (.func 205) [] [.ptr 1 0])],[(0,some ⟨3,aa ak (X++(aG (aP h) (S.take s.1)++(S.drop s.1++Y)))⟩),(1,some ⟨131,h.flat⟩)],3000⟩) (fun s=>S.length-s.1) id ⟨1,.inr rfl⟩ ?_ ?_
 ·simp only[go_sem,↓reduceIte,hF]
  refine⟨?_,hF2⟩
  rcases S with _|⟨s,S⟩
  ·rfl
  ·simp[aG,ig,dV]
 ·rintro⟨i,g1⟩
  by_cases hi:i<S.length
  ·have c1:decide (((a+i:Nat):Int)<((a+S.length:Nat):Int))=true:=by simp;omega
   refine' run c1 (l3 fun hq=> ?_)
   have hd:S.drop i=S[i]::S.drop (i+1):=List.drop_eq_getElem_cons hi
   have hx:placeOf h S[i]:=hS _ (List.getElem_mem hi)
   have htk:S.take (i+1)=S.take i++[S[i]]:=List.take_succ_eq_append_getElem hi
   have hacc:(aG (aP h) (S.take i)).length=i:=by rw[bZ,List.length_take];omega
   have hmem:∀y,y∈aG (aP h) (S.take i)→placeOf h y:=fun y hy=>hS y (List.mem_of_mem_take (fO.1 hy))
   generalize S[i]=x at *
   generalize hR:S.drop (i+1)++Y=R at *
   refine aX (σ:={p:List Int×List Int // p.1++p.2=aG (aP h) (S.take i)∧∀q,q∈p.2→aP h x q=true}) (fun s=>⟨[(9,int (a+s.1.1.length:Nat)),(8,int (a+i:Nat)),(0,.osl 0 1 0 n),(1,int a),(2,int (a+S.length:Nat)),(3,.fn (.func 205) [] [.ptr 1 0])],[(0,some ⟨3,aa ak (X++(s.1.1++(x::(s.1.2++R))))⟩),(1,some ⟨131,h.flat⟩)],6000⟩) (fun s=>s.1.1.length) id ⟨(aG (aP h) (S.take i),[]),by simp,by simp⟩ ?_ ?_
   ·simp only[go_sem,↓reduceIte,hF]
    rw[hacc,hd,←hR]
    exact⟨rfl,rfl,fun b g h=>by have:=hF2 b g h;omega⟩
   ·rintro⟨⟨P,Q⟩,g2,g3⟩
    simp only at g2 g3
    have g4:P.length+Q.length=i:=by rw[←hacc,←g2,List.length_append]
    have hRl:R.length+i+1=S.length+Y.length:=by rw[←hR,List.length_append,List.length_drop];omega
    have e2:IntKind.i64.wrap (((a+i:Nat):Int)+1)=((a+(i+1):Nat):Int):=wE
    rcases List.eq_nil_or_concat P with hP|⟨P',p,hP⟩
    ·have c2:decide ((a:Int)<((a+P.length:Nat):Int))=false:=by rw[hP];simp
     refine' run (I c2 e2) (l3 fun hq=> ?_)
     refine⟨⟨i+1,.inl hi⟩,id,?_,mS⟩
     have hs:=AR g2 g3 (by rw[hP];simp)
     rw[←htk] at hs
     simp only[go_sem,↓reduceIte,hF,hs,hR]
     refine⟨?_,hF2⟩
     simp
    ·rw[List.concat_eq_append] at hP
     have hPl:P.length=P'.length+1:=by rw[hP];simp
     have hpm:placeOf h p:=hmem p (by rw[←g2,hP];simp)
     have c2:decide ((a:Int)<((a+P.length:Nat):Int))=true:=by simp;omega
     have w2:IntKind.i64.wrap (((a+P.length:Nat):Int)-1)=((a+P'.length:Nat):Int):=wE
     have hLe:X++(P++x::(Q++R))=(X++P')++p::x::(Q++R):=by rw[hP];simp
     have hLx:(X++(P++x::(Q++R)))[a+P.length]? =some x:=by
      rw[←List.append_assoc];exact iQ _ _ _ _ (by rw[List.length_append,ha])
     have hLp:(X++(P++x::(Q++R)))[a+P'.length]? =some p:=by
      rw[hLe];exact iQ _ _ _ _ (by rw[List.length_append,ha])
     have hLn:(X++(P++x::(Q++R))).length=n:=by
      simp only[List.length_append,List.length_cons];omega
     have hst:=AQ (X++P') (Q++R) p x (a+P.length) (a+P'.length) (by rw[List.length_append];omega) (by rw[List.length_append];omega)
     rw[←hLe] at hst
     have hz:=fF (l:=X++(P++x::(Q++R))) byOmega
     generalize X++(P++x::(Q++R))=L at *
     have r1:=iG hLx
     have r2:=iG hLp
     have hn1:(aa ak L).length=n:=by rw[cz,hLn]
     have hn2:(aa ak (L.set (a+P.length) p)).length=n:=by rw[cz,List.length_set,hLn]
     have s1:=mW L (a+P.length) p byOmega
     have s2:=mW (L.set (a+P.length) p) (a+P'.length) x (by rw[List.length_set];omega)
     rw[hst] at s2
     cases hlt:aP h x p
     ·have d1:decide (gm (ed h x) (ed h p)<0)=false:=by rw[qg];exact hlt
      refine' run (I c2 (I e2 (I w2 (I r1 (I r2 (I hn1 hz)))))) (l4 fun K hK=> ?_)
      ·(refine d9 [1] (xQ h x p hx hpm) ?_)
       (revert K;refine bK ?_;refine' run (I c2 (I e2 (I w2 (I r1 (I r2 (I hn1 (I hz d1))))))) (l3 fun hq=> ?_))
       refine⟨⟨i+1,.inl hi⟩,id,?_,mS⟩
       have hs:=AR g2 g3 (by
        rw[hP]
        intro z hz
        simp at hz
        subst hz
        exact hlt)
       rw[←htk] at hs
       simp only[go_sem,↓reduceIte,hF,hs,hR]
       refine⟨?_,hF2⟩
       rw[hLe,hP]
       simp
     ·have d1:decide (gm (ed h x) (ed h p)<0)=true:=by rw[qg];exact hlt
      refine' run (I c2 (I e2 (I w2 (I r1 (I r2 (I hn1 hz)))))) (l4 fun K hK=> ?_)
      ·(refine d9 [1] (xQ h x p hx hpm) ?_)
       (revert K;refine bK ?_;refine' run (I c2 (I e2 (I w2 (I r1 (I r2 (I hn1 (I hn2 (I hz (I d1 (I s1 s2)))))))))) (l3 fun hq=> ?_))
       ·refine⟨⟨(P',p::Q),by rw[←g2,hP];simp,by
         intro q hq
         rcases List.mem_cons.1 hq with rfl|hq
         ·exact hlt
         ·exact g3 q hq⟩,id,?_,mS⟩
        simp only[go_sem,↓reduceIte,hF]
        refine⟨?_,fun b g h=>by have:=hF2 b g h;omega⟩
        simp
  ·have c1:decide (((a+i:Nat):Int)<((a+S.length:Nat):Int))=false:=by simp;omega
   refine' run c1 (l3 fun hq=> ?_)
   rcases Nat.lt_or_ge S.length i with h1|h1
   ·rw[List.take_of_length_le byOmega,List.drop_eq_nil_of_le byOmega];rfl
   ·rw[List.take_of_length_le byOmega,List.drop_eq_nil_of_le byOmega];rfl
section
section
variable {α:Type} {lt:α→α→Bool}
structure SW (lt:α→α→Bool):Prop where
 asym:∀x y,lt x y=true→lt y x=false
 ntr:∀x y z,lt y x=false→lt z y=false→lt z x=false
def Srt (lt:α→α→Bool) (l:List α):Prop:=l.Pairwise fun x y=>lt y x=false
theorem SW.lt_of {x y z:α} (h:SW lt) (h1:lt x y=true) (h2:lt z y=false):lt x z=true:=by
 cases h3:lt x z with
 |true=>rfl
 |false=>have:=h.ntr y z x h2 h3;rw[h1] at this;cases this
theorem SW.of_lt {x y z:α} (h:SW lt) (h1:lt y x=false) (h2:lt y z=true):lt x z=true:=by
 cases h3:lt x z with
 |true=>rfl
 |false=>have:=h.ntr z x y h3 h1;rw[h2] at this;cases this
def bz (lt:α→α→Bool):List α→List α→List α
 | [],V=>V
 |u::U,[]=>u::U
 |u::U,v::V=>if lt v u then v::bz lt (u::U) V else u::bz lt U (v::V)
termination_by U V=>U.length+V.length
@[simp] theorem JY (V:List α):bz lt [] V=V:=by unfold bz;rfl
@[simp] theorem JZ (U:List α):bz lt U []=U:=by cases U<;>simp[bz]
theorem qi (u v:α) (U V:List α):bz lt (u::U) (v::V)=if lt v u then v::bz lt (u::U) V else u::bz lt U (v::V):=by rw[bz]
theorem oH:∀(U1 V1 U2 V2:List α),(∀u,u∈U1→∀v,v∈V2→lt v u=false)→(∀v,v∈V1→∀u,u∈U2→lt v u=true)→bz lt (U1++U2) (V1++V2)=bz lt U1 V1++bz lt U2 V2
 | [],[],U2,V2,_,_=>by simp
 | [],v::V1,U2,V2,h1,h2=>by
   rcases U2 with _|⟨u,U2⟩
   ·simp
   ·have ih:=oH [] V1 (u::U2) V2 ai (fun x hx=>h2 x (by simp[hx]))
    simp only[List.nil_append,List.cons_append,JY,qi] at ih ⊢
    rw[h2 v ai u ai,if_pos rfl,ih]
 |u::U1,[],U2,V2,h1,h2=>by
  rcases V2 with _|⟨v,V2⟩
  ·simp
  ·have ih:=oH U1 [] U2 (v::V2) (fun x hx=>h1 x (by simp[hx])) ai
   simp only[List.nil_append,List.cons_append,JZ,qi] at ih ⊢
   rw[h1 u ai v ai,if_neg ai,ih]
 |u::U1,v::V1,U2,V2,h1,h2=>by
  simp only[List.cons_append,qi]
  split
  ·have ih:=oH (u::U1) V1 U2 V2 h1 (fun x hx=>h2 x (by simp[hx]))
   simp only[List.cons_append] at ih
   rw[ih,List.cons_append]
  ·have ih:=oH U1 (v::V1) U2 V2 (fun x hx=>h1 x (by simp[hx])) h2
   simp only[List.cons_append] at ih
   rw[ih,List.cons_append]
termination_by U1 V1=>U1.length+V1.length
theorem qj:∀(U V:List α),(bz lt U V).length=U.length+V.length
 | [],V=>by simp
 |u::U,[]=>by simp
 |u::U,v::V=>by
  rw[qi]
  split
  ·rw[List.length_cons,qj (u::U) V];simp;omega
  ·rw[List.length_cons,qj U (v::V)];simp;omega
termination_by U V=>U.length+V.length
theorem AU {x:α}:∀(U V:List α),x∈bz lt U V↔x∈U∨x∈V
 | [],V=>by simp
 |u::U,[]=>by simp
 |u::U,v::V=>by
  rw[qi]
  split
  ·rw[List.mem_cons,AU (u::U) V];simp only[List.mem_cons];grind
  ·rw[List.mem_cons,AU U (v::V)];simp only[List.mem_cons];grind
termination_by U V=>U.length+V.length
theorem Srt.app {U V:List α}:Srt lt (U++V)↔Srt lt U∧Srt lt V∧∀u,u∈U→∀v,v∈V→lt v u=false:=List.pairwise_append
theorem J2 (h:SW lt) (x:α):∀(R:List α),Srt lt R.reverse→∃P Q,R.reverse=P++Q∧(dV lt x R).reverse=P++x::Q∧(∀p,p∈P→lt x p=false)∧∀q,q∈Q→lt x q=true
 | [],_=>⟨[],[],rfl,rfl,by simp,by simp⟩
 |r::R,hR=>by
  rw[List.reverse_cons] at hR
  obtain⟨h1,h2,h3⟩:=Srt.app.1 hR
  rw[dV]
  split
  ·rename_i hc
   obtain⟨P,Q,e1,e2,e3,e4⟩:=J2 h x R h1
   refine⟨P,Q++[r],by rw[List.reverse_cons,e1];simp,by rw[List.reverse_cons,e2];simp,e3,fun q hq=> ?_⟩
   rcases List.mem_append.1 hq with hq|hq
   ·exact e4 q hq
   ·simp at hq;subst hq;exact hc
  ·rename_i hc
   have hc:lt x r=false:=by simpa using hc
   refine⟨(r::R).reverse,[],by simp,by simp,fun p hp=> ?_,by simp⟩
   simp only[List.reverse_cons,List.mem_append,List.mem_singleton] at hp
   rcases hp with hp|rfl
   ·exact h.ntr _ _ _ (h3 p hp r ai) hc
   ·exact hc
theorem Et (h:SW lt) (S:List α) (x:α) (hS:Srt lt (aG lt S)):∃P Q,aG lt S=P++Q∧aG lt (S++[x])=P++x::Q∧(∀p,p∈P→lt x p=false)∧∀q,q∈Q→lt x q=true:=by
 unfold aG at *
 rw[qh]
 exact J2 h x _ hS
theorem jR (h:SW lt) (S:List α):Srt lt (aG lt S):=by
 rcases List.eq_nil_or_concat S with rfl|⟨S,x,rfl⟩
 ·simp[aG,ig,Srt]
 ·have ih:=jR h S
  rw[List.concat_eq_append]
  obtain⟨P,Q,e1,e2,e3,e4⟩:=Et h S x ih
  rw[e1] at ih
  rw[e2]
  obtain⟨h1,h2,h3⟩:=Srt.app.1 ih
  refine Srt.app.2 ⟨h1,List.pairwise_cons.2 ⟨fun q hq=>h.asym _ _ (e4 q hq),h2⟩,fun u hu v hv=> ?_⟩
  rcases List.mem_cons.1 hv with rfl|hv
  ·exact e3 u hu
  ·exact h3 u hu v hv
termination_by S.length
decreasing_by simp_all
theorem J3 (h:SW lt) (x:α):∀(S:List α),Srt lt S→∃P Q,S=P++Q∧(∀p,p∈P→lt x p=false)∧∀q,q∈Q→lt x q=true
 | [],_=>⟨[],[],rfl,by simp,by simp⟩
 |s::S,hS=>by
  obtain⟨h1,h2⟩:=List.pairwise_cons.1 hS
  cases hc:lt x s with
  |true=>
   refine⟨[],s::S,rfl,by simp,fun q hq=> ?_⟩
   rcases List.mem_cons.1 hq with rfl|hq
   ·exact hc
   ·exact h.lt_of hc (h1 q hq)
  |false=>
   obtain⟨P,Q,e1,e2,e3⟩:=J3 h x S h2
   refine⟨s::P,Q,by rw[e1];rfl,fun p hp=> ?_,e3⟩
   rcases List.mem_cons.1 hp with rfl|hp
   ·exact hc
   ·exact e2 p hp
theorem T9 {P Q P' Q':List α} {x:α} (h:P++Q=P'++Q') (h1:∀p,p∈P→lt x p=false) (h2:∀q,q∈Q→lt x q=true) (h3:∀p,p∈P'→lt x p=false) (h4:∀q,q∈Q'→lt x q=true):P=P'∧Q=Q':=by
 induction P generalizing P' with
 |nil=>
  rcases P' with _|⟨p,P'⟩
  ·exact⟨rfl,h⟩
  ·simp only[List.nil_append,List.cons_append] at h
   have:=h2 p (by rw[h];simp)
   rw[h3 p ai] at this
   cases this
 |cons p P ih=>
  rcases P' with _|⟨p',P'⟩
  ·simp only[List.nil_append,List.cons_append] at h
   have:=h4 p (by rw[←h];simp)
   rw[h1 p ai] at this
   cases this
  ·simp only[List.cons_append,List.cons.injEq] at h
   obtain⟨rfl,h⟩:=h
   obtain⟨e1,e2⟩:=ih h (fun q hq=>h1 q (by simp[hq])) (fun q hq=>h3 q (by simp[hq]))
   exact⟨by rw[e1],e2⟩
theorem xR (h:SW lt) (A B:List α):bz lt (aG lt A) (aG lt B)=aG lt (A++B):=by
 rcases List.eq_nil_or_concat B with rfl|⟨B,x,rfl⟩
 ·simp[aG,ig]
 ·have ih:=xR h A B
  rw[List.concat_eq_append,←List.append_assoc]
  have hA:=jR h A
  obtain⟨P,Q,e1,e2,e3,e4⟩:=Et h B x (jR h B)
  obtain⟨P',Q',f1,f2,f3,f4⟩:=Et h (A++B) x (jR h _)
  obtain⟨A1,A2,g1,g2,g3⟩:=J3 h x _ hA
  have c1:∀u,u∈A1→∀v,v∈Q→lt v u=false:=fun u hu v hv=>h.ntr _ _ _ (g2 u hu) (h.asym _ _ (e4 v hv))
  have c2:∀v,v∈P→∀u,u∈A2→lt v u=true:=fun v hv u hu=>h.of_lt (e3 v hv) (g3 u hu)
  have c3:∀u,u∈A1→∀v,v∈x::Q→lt v u=false:=fun u hu v hv=>by
   rcases List.mem_cons.1 hv with rfl|hv
   ·exact g2 u hu
   ·exact c1 u hu v hv
  have hm:bz lt A1 P++bz lt A2 Q=P'++Q':=by rw[←oH _ _ _ _ c1 c2,←g1,←e1,ih,f1]
  obtain⟨k1,k2⟩:=T9 (lt:=lt) (x:=x) hm (fun p hp=>by
   rcases(AU _ _).1 hp with hp|hp
   ·exact g2 p hp
   ·exact e3 p hp) (fun p hp=>by
   rcases(AU _ _).1 hp with hp|hp
   ·exact g3 p hp
   ·exact e4 p hp) f3 f4
  rw[e2,f2,g1,oH _ _ _ _ c3 c2,←k1,←k2]
  congr 1
  rcases A2 with _|⟨a,A2⟩
  ·simp
  ·rw[qi,g3 a ai,if_pos rfl]
termination_by B.length
decreasing_by simp_all
def blk (lt:α→α→Bool) (s:Nat) (l:List α):List α:=if h:l.length≤s∨s=0 then aG lt l else aG lt (l.take s)++blk lt s (l.drop s)
termination_by l.length
decreasing_by simp;omega
theorem jS {s:Nat} {l:List α} (h:l.length≤s):blk lt s l=aG lt l:=by rw[blk,dif_pos (.inl h)]
theorem nu {s:Nat} {A R:List α} (hA:A.length=s) (hs:0<s):blk lt s (A++R)=aG lt A++blk lt s R:=by
 by_cases hR:R=[]
 ·subst hR
  rw[List.append_nil,jS byOmega,jS ai]
  simp[aG,ig]
 ·have:=List.length_pos_iff.2 hR
  rw[blk,dif_neg (by rw[List.length_append];omega),List.take_append_of_le_length byOmega,List.take_of_length_le byOmega,List.drop_append_of_le_length byOmega,List.drop_eq_nil_of_le byOmega,List.nil_append]
theorem oI {s:Nat} (l:List α):(blk lt s l).length=l.length:=by
 rw[blk]
 split
 ·exact bZ _ _
 ·rename_i h
  rw[List.length_append,bZ,oI (l.drop s)]
  simp;omega
termination_by l.length
decreasing_by simp;omega
end
end
end Go.Proofs.YtlikpcpllahalaaGreat.V
