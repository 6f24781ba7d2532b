/- Parts of the proof. -/
import Derived.Test.YtlikpcpllahalaaGreatG22
set_option maxHeartbeats 16000000
set_option linter.unusedSimpArgs false
set_option linter.unusedVariables false
namespace Go.Proofs.YtlikpcpllahalaaGreat.V
open Go.RowKit
set_option maxRecDepth 100000
section
theorem kK (h:History):SW (aP h):=by
 constructor<;>simp only[aP,decide_eq_true_eq,decide_eq_false_iff_not]<;>intros<;>omega
theorem J4 {α:Type} {lt:α→α→Bool} {u:α} {V1 V2:List α} (h1:∀v,v∈V1→lt v u=true) (h2:∀v,v∈V2→lt v u=false):bz lt [u] (V1++V2)=V1++u::V2:=by
 have:=oH (lt:=lt) [] V1 [u] V2 ai (fun v hv x hx=>by simp at hx;subst hx;exact h1 v hv)
 simp only[List.nil_append,JY] at this
 rw[this]
 rcases V2 with _|⟨v,V2⟩
 ·simp
 ·rw[qi,h2 v ai]
  simp
theorem J5 {α:Type} {lt:α→α→Bool} {v:α} {U1 U2:List α} (h1:∀u,u∈U1→lt v u=false) (h2:∀u,u∈U2→lt v u=true):bz lt (U1++U2) [v]=U1++v::U2:=by
 have:=oH (lt:=lt) U1 [] U2 [v] (fun u hu x hx=>by simp at hx;subst hx;exact h1 u hu) ai
 simp only[List.nil_append,JZ] at this
 rw[this]
 rcases U2 with _|⟨u,U2⟩
 ·simp
 ·rw[qi,h2 u ai]
  simp
theorem iH {n:Int} (h1:0≤n) (h2:n≤18446744073709551615):IntKind.u64.wrap n=n:=by
 unfold IntKind.wrap
 simp[IntKind.bits,IntKind.signed]
 omega
theorem ql (n:Nat):Int.fdiv (n:Int) 2=((n/2:Nat):Int):=by
 rw[Int.fdiv_eq_ediv_of_nonneg _ (by decide)]
 rfl
theorem qm {α:Type} {X V Y:List α} {k i:Nat} {v:α} (h:V[k]? =some v) (hi:i=X.length+k):(X++(V++Y))[i]? =some v:=by
 subst hi
 have:=(List.getElem?_eq_some_iff.1 h).1
 rw[List.getElem?_append_right byOmega,show X.length+k-X.length=k by omega,List.getElem?_append_left this,h]
theorem ny {α:Type} {lt:α→α→Bool} (hS:SW lt) {V:List α} (h:Srt lt V) {i j:Nat} {x y:α} (hi:V[i]? =some x) (hj:V[j]? =some y) (hij:i≤j):lt y x=false:=by
 rcases Nat.lt_or_eq_of_le hij with hij|rfl
 ·obtain⟨a,rfl⟩:=List.getElem?_eq_some_iff.1 hi
  obtain⟨b,rfl⟩:=List.getElem?_eq_some_iff.1 hj
  exact List.pairwise_iff_getElem.1 h i j _ _ hij
 ·rw[hi] at hj
  injection hj with hj
  subst hj
  cases hc:lt x x with
  |false=>rfl
  |true=>have:=hS.asym _ _ hc;rw[hc] at this;cases this
theorem J6 {α:Type} {lt:α→α→Bool} (hS:SW lt) {V:List α} (h:Srt lt V) {i j:Nat} {x y u:α} (hi:V[i]? =some x) (hj:V[j]? =some y) (hij:i≤j) (hx:lt x u=false):lt y u=false:=hS.ntr _ _ _ hx (ny hS h hi hj hij)
theorem J7 {α:Type} {lt:α→α→Bool} (hS:SW lt) {V:List α} (h:Srt lt V) {i j:Nat} {x y u:α} (hi:V[i]? =some x) (hj:V[j]? =some y) (hij:i≤j) (hy:lt y u=true):lt x u=true:=hS.of_lt (ny hS h hi hj hij) hy
attribute [local go_sem] Int.reduceEq in
theorem Ua (h:History) (X V Y:List Int) (u:Int) (hl:(X++(u::(V++Y))).length≤100000) (hu:placeOf h u) (hV:∀x,x∈V→placeOf h x) (sV:Srt (aP h) V):
 aC Tryz.prog 244 [(0,⟨3,aa ak (X++(u::(V++Y)))⟩),(1,⟨131,h.flat⟩)] [.osl 0 1 0 (X++(u::(V++Y))).length,int X.length,int (X.length+1:Nat),int (X.length+1+V.length:Nat),.fn (.func 205) [] [.ptr 1 0]] (.tup []) [(0,some ⟨3,aa ak (X++(bz (aP h) [u] V++Y))⟩)]:=by
 have hne2:=fF (l:=X++(u::(V++Y))) (by simp;omega)
 have hlen:(X++(u::(V++Y))).length=X.length+1+V.length+Y.length:=by simp;omega
 have hLu:(X++(u::(V++Y)))[X.length]? =some u:=iQ _ _ _ _ rfl
 have hLv:∀k v,V[k]? =some v→(X++(u::(V++Y)))[X.length+1+k]? =some v:=fun k v hk=>by
  have:=qm (X:=X++[u]) (Y:=Y) (i:=X.length+1+k) hk ai
  simpa using this
 have hfin:∀i,X.length+1≤i→i≤X.length+1+V.length→X++(u::(V++Y))=X++([]++(u::(V.take (i-(X.length+1))++(V.drop (i-(X.length+1))++Y)))):=fun i _ _=>by
  rw[←List.append_assoc (V.take _),List.take_append_drop];rfl
 rw[hlen] at hl ⊢
 generalize hn:X.length+1+V.length+Y.length=n at *
 generalize hLL:X++(u::(V++Y))=L at *
 generalize ha:X.length=a at *
 refine aW 2 Tryz.func244 (fun cx hN hR hF hL=> ?_) (by simp[go_sem,hne2,p8])
 have hF2:∀b g,cx.F b=some g→b<3000:=fun b g h=>by
  have:=hF b g h
  simp[inl] at this
  omega
 have w1:IntKind.i64.wrap (((a+1:Nat):Int)-a)=1:=wE
 refine' run w1 (l3 fun hq=> ?_)
 refine iD mixed (σ:={p:Nat×Nat // a+1≤p.1∧p.1≤p.2∧p.2≤a+1+V.length∧(∀(k:Nat) v,V[k]? =some v→a+1+k<p.1→aP h v u=true)∧(∀(k:Nat) v,V[k]? =some v→p.2≤a+1+k→aP h v u=false)})
  (fun s=>⟨[(10,int s.1.1),(11,int s.1.2),(0,.osl 0 1 0 n),(1,int a),(4,.fn (.func 205) [] [.ptr 1 0])],[(0,some ⟨3,aa ak L⟩),(1,some ⟨131,h.flat⟩)],4000⟩) (fun s=>s.1.2-s.1.1) id
  ⟨(a+1,a+1+V.length),Nat.le_refl _,by omega,Nat.le_refl _,fun k v _ h=>by omega,fun k v hk h=>by have:=(List.getElem?_eq_some_iff.1 hk).1;omega⟩ (by rw[hN];kernel_rfl) ?_ ?_
 ·simp only[go_sem,↓reduceIte,hF]
  exact fun b g h=>by have:=hF2 b g h;omega
 ·rintro⟨⟨i,j⟩,g1,g2,g3,g4,g5⟩
  simp only at g1 g2 g3 g4 g5
  by_cases hi:i<j
  ·have hij:(i+j)/2<j∧i≤(i+j)/2:=byOmega
   have e1:IntKind.i64.wrap ((i:Int)+j)=((i+j:Nat):Int):=wE
   have e2:IntKind.u64.wrap ((i+j:Nat):Int)=((i+j:Nat):Int):=by rw[iH]<;>omega
   have e3:=ql (i+j)
   generalize hm:(i+j)/2=q at *
   have e4:IntKind.i64.wrap (q:Int)=(q:Int):=wE
   have e5:=wS q
   obtain⟨k,hk⟩:∃k,q=a+1+k:=⟨q-(a+1),by omega⟩
   have hk2:k<V.length:=byOmega
   have hv:V[k]? =some V[k]:=List.getElem?_eq_getElem hk2
   have hpv:placeOf h V[k]:=hV _ (List.getElem_mem hk2)
   have hLq:=hLv k _ hv
   rw[←hk] at hLq
   generalize V[k]=v at *
   have r1:=iG hLu
   have r2:=iG hLq
   have hqn:q<n:=byOmega
   have han:a<n:=byOmega
   have hlr:(aa ak L).length=n:=by rw[cz];exact hlen
   refine' run (I e1 (I e2 (I e3 (I e4 (I e5 (I r1 (I r2 (I hlr (I (eq_true hi) hne2))))))))) (lv (fun hq=>o4 fun K hK=> ?_) tt)
   (refine d9 [1] (xQ h v u hpv hu) ?_)
   cases hlt:aP h v u
   ·have d1:decide (gm (ed h v) (ed h u)<0)=false:=by rw[qg];exact hlt
    (revert K;refine bK ?_;refine' run (I e1 (I e2 (I e3 (I e4 (I e5 (I r1 (I r2 (I hlr (I hne2 d1))))))))) (l3 fun hq=> ?_))
    refine⟨⟨(i,q),g1,hij.2,by show q≤_;omega,g4,fun k' v' hk' h'=> ?_⟩,id,?_,mS⟩
    ·have h':q≤a+1+k':=h'
     refine J6 (kK h) sV hv hk' byOmega hlt
    ·simp only[go_sem,↓reduceIte,hF]
     exact fun b g h=>by have:=hF2 b g h;omega
   ·have d1:decide (gm (ed h v) (ed h u)<0)=true:=by rw[qg];exact hlt
    (revert K;refine bK ?_;refine' run (I e1 (I e2 (I e3 (I e4 (I e5 (I r1 (I r2 (I hlr (I hne2 d1))))))))) (l3 fun hq=> ?_))
    refine⟨⟨(q+1,j),by show a+1≤q+1;omega,by show q+1≤j;omega,g3,fun k' v' hk' h'=> ?_,g5⟩,id,?_,mS⟩
    ·have h':a+1+k'<q+1:=h'
     exact J7 (kK h) sV hk' hv byOmega hlt
    ·simp only[go_sem,↓reduceIte,hF]
     exact fun b g h=>by have:=hF2 b g h;omega
  ·obtain rfl:i=j:=byOmega
   have f1:=hfin i g1 g3
   obtain⟨V1,hV1⟩:∃V1,V1=V.take (i-(a+1)):=⟨_,rfl⟩
   obtain⟨V2,hV2⟩:∃V2,V2=V.drop (i-(a+1)):=⟨_,rfl⟩
   rw[←hV1,←hV2] at f1
   have hVe:V=V1++V2:=by rw[hV1,hV2,List.take_append_drop]
   have hV1l:V1.length=i-(a+1):=by rw[hV1,List.length_take];omega
   have k1:∀v,v∈V1→aP h v u=true:=fun v hv=>by
    obtain⟨k,hk,rfl⟩:=List.mem_iff_getElem.1 hv
    exact g4 k _ (by rw[hVe,List.getElem?_append_left hk,List.getElem?_eq_getElem hk]) byOmega
   have k2:∀v,v∈V2→aP h v u=false:=fun v hv=>by
    obtain⟨k,hk,rfl⟩:=List.mem_iff_getElem.1 hv
    exact g5 (V1.length+k) _ (by rw[hVe,List.getElem?_append_right byOmega,Nat.add_sub_cancel_left,List.getElem?_eq_getElem hk]) byOmega
   have hres:=J4 k1 k2
   rw[←hVe] at hres
   have w2:IntKind.i64.wrap ((i:Int)-1)=((a+V1.length:Nat):Int):=wE
   refine' run w2 (l3 fun hq=> ?_)
   refine aX (σ:={p:List Int×List Int // p.1++p.2=V1}) (fun s=>⟨[(13,int (a+s.1.1.length:Nat)),(0,.osl 0 1 0 n),(10,int i)],[(0,some ⟨3,aa ak (X++(s.1.1++(u::(s.1.2++(V2++Y)))))⟩),(1,some ⟨131,h.flat⟩)],9000⟩) (fun s=>s.1.2.length) id ⟨([],V1),rfl⟩ ?_ ?_
   ·simp only[go_sem,↓reduceIte,hF]
    rw[f1]
    exact⟨rfl,fun b g h=>by have:=hF2 b g h;omega⟩
   ·rintro⟨⟨P,Q⟩,q1⟩
    simp only at q1
    have q1l:P.length+Q.length=V1.length:=by rw[←q1,List.length_append]
    rcases Q with _|⟨x,Q⟩
    ·have c2:decide (((a+P.length:Nat):Int)<((a+V1.length:Nat):Int))=false:=by
      simp at q1l;simp;omega
     rw[List.append_nil] at q1
     subst q1
     refine' run (I w2 c2) (l3 fun hq=> ?_)
     rw[hres]
     simp
    ·have q2l:P.length+Q.length+1=V1.length:=by simp at q1l;omega
     have c2:decide (((a+P.length:Nat):Int)<((a+V1.length:Nat):Int))=true:=by simp;omega
     have e6:IntKind.i64.wrap (((a+P.length:Nat):Int)+1)=((a+(P.length+1):Nat):Int):=wE
     have hVl:=congrArg List.length hVe
     rw[List.length_append] at hVl
     have hLe:X++(P++(u::(x::Q++(V2++Y))))=(X++P)++u::x::(Q++(V2++Y)):=by simp
     have hLx:(X++(P++(u::(x::Q++(V2++Y)))))[a+P.length]? =some u:=by
      rw[hLe];exact iQ _ _ _ _ (by rw[List.length_append,ha])
     have hLp:(X++(P++(u::(x::Q++(V2++Y)))))[a+(P.length+1)]? =some x:=by
      rw[hLe,show(X++P)++u::x::(Q++(V2++Y))=(X++P++[u])++x::(Q++(V2++Y)) by simp];exact iQ _ _ _ _ (by simp;omega)
     have hLn:(X++(P++(u::(x::Q++(V2++Y))))).length=n:=by
      simp only[List.length_append,List.length_cons];omega
     have hst:=JS (X++P) (Q++(V2++Y)) u x (a+P.length) (a+(P.length+1)) (by rw[List.length_append];omega) (by rw[List.length_append];omega)
     rw[←hLe] at hst
     have hz:=fF (l:=X++(P++(u::(x::Q++(V2++Y))))) byOmega
     generalize X++(P++(u::(x::Q++(V2++Y))))=M at *
     have r1:=iG hLx
     have r2:=iG hLp
     have hn1:(aa ak M).length=n:=by rw[cz,hLn]
     have hn2:(aa ak (M.set (a+P.length) x)).length=n:=by rw[cz,List.length_set,hLn]
     have s1:=mW M (a+P.length) x byOmega
     have s2:=mW (M.set (a+P.length) x) (a+(P.length+1)) u (by rw[List.length_set];omega)
     rw[hst] at s2
     refine' run (I w2 (I c2 (I e6 (I r1 (I r2 (I hn1 (I hn2 (I hz (I s1 s2))))))))) (l3 fun hq=> ?_)
     refine⟨⟨(P++[x],Q),by rw[←q1];simp⟩,id,?_,by show Q.length<(x::Q).length;simp⟩
     have hlp:(P++[x]).length=P.length+1:=by simp
     simp only[go_sem,↓reduceIte,hF,hlp]
     refine⟨?_,fun b g h=>by have:=hF2 b g h;omega⟩
     simp
end
section
attribute [local go_sem] Int.reduceEq in
theorem Ub (h:History) (X U Y:List Int) (v:Int) (hl:(X++(U++(v::Y))).length≤100000) (hv:placeOf h v) (hU:∀x,x∈U→placeOf h x) (sU:Srt (aP h) U) (hU1:U.length≠1):
 aC Tryz.prog 244 [(0,⟨3,aa ak (X++(U++(v::Y)))⟩),(1,⟨131,h.flat⟩)] [.osl 0 1 0 (X++(U++(v::Y))).length,int X.length,int (X.length+U.length:Nat),int (X.length+U.length+1:Nat),.fn (.func 205) [] [.ptr 1 0]] (.tup []) [(0,some ⟨3,aa ak (X++(bz (aP h) U [v]++Y))⟩)]:=by
 have hne2:=fF (l:=X++(U++(v::Y))) (by simp;omega)
 have hlen:(X++(U++(v::Y))).length=X.length+U.length+1+Y.length:=by simp;omega
 have hLv:(X++(U++(v::Y)))[X.length+U.length]? =some v:=by rw[←List.append_assoc];exact iQ _ _ _ _ ai
 have hLu:∀k x,U[k]? =some x→(X++(U++(v::Y)))[X.length+k]? =some x:=fun k x hk=>qm hk rfl
 have hfin:∀i,X.length≤i→i≤X.length+U.length→X++(U++(v::Y))=X++(U.take (i-X.length)++(U.drop (i-X.length)++(v::([]++Y)))):=fun i _ _=>by
  rw[←List.append_assoc (U.take _),List.take_append_drop];rfl
 rw[hlen] at hl ⊢
 generalize hn:X.length+U.length+1+Y.length=n at *
 generalize hLL:X++(U++(v::Y))=L at *
 generalize ha:X.length=a at *
 generalize hm:a+U.length=m at *
 refine aW 2 Tryz.func244 (fun cx hN hR hF hL=> ?_) (by simp[go_sem,hne2,p8])
 have hF2:∀b g,cx.F b=some g→b<3000:=fun b g h=>by
  have:=hF b g h
  simp[inl] at this
  omega
 have w1:IntKind.i64.wrap ((m:Int)-a)=((U.length:Nat):Int):=wE
 have w1':(((U.length:Nat):Int)=1)=False:=by simp;omega
 have w2:IntKind.i64.wrap (((m+1:Nat):Int)-m)=1:=wE
 refine' run (I w1 (I w1' w2)) (lv (fun hq=>fun hq=>lf ?_) tt)
 refine iD mixed (σ:={p:Nat×Nat // a≤p.1∧p.1≤p.2∧p.2≤m∧(∀(k:Nat) x,U[k]? =some x→a+k<p.1→aP h v x=false)∧(∀(k:Nat) x,U[k]? =some x→p.2≤a+k→aP h v x=true)})
  (fun s=>⟨[(14,int s.1.1),(15,int s.1.2),(0,.osl 0 1 0 n),(2,int m),(4,.fn (.func 205) [] [.ptr 1 0])],[(0,some ⟨3,aa ak L⟩),(1,some ⟨131,h.flat⟩)],5000⟩) (fun s=>s.1.2-s.1.1) id
  ⟨(a,m),Nat.le_refl _,by omega,Nat.le_refl _,fun k v _ h=>by omega,fun k v hk h=>by have:=(List.getElem?_eq_some_iff.1 hk).1;omega⟩ (by rw[hN];kernel_rfl) ?_ ?_
 ·simp only[go_sem,↓reduceIte,hF]
  exact fun b g h=>by have:=hF2 b g h;omega
 ·rintro⟨⟨i,j⟩,g1,g2,g3,g4,g5⟩
  simp only at g1 g2 g3 g4 g5
  by_cases hi:i<j
  ·have hij:(i+j)/2<j∧i≤(i+j)/2:=byOmega
   have e1:IntKind.i64.wrap ((i:Int)+j)=((i+j:Nat):Int):=wE
   have e2:IntKind.u64.wrap ((i+j:Nat):Int)=((i+j:Nat):Int):=by rw[iH]<;>omega
   have e3:=ql (i+j)
   generalize hqq:(i+j)/2=q at *
   have e4:IntKind.i64.wrap (q:Int)=(q:Int):=wE
   have e5:=wS q
   obtain⟨k,hk⟩:∃k,q=a+k:=⟨q-a,by omega⟩
   have hk2:k<U.length:=byOmega
   have hx:U[k]? =some U[k]:=List.getElem?_eq_getElem hk2
   have hpx:placeOf h U[k]:=hU _ (List.getElem_mem hk2)
   have hLq:=hLu k _ hx
   rw[←hk] at hLq
   generalize U[k]=x at *
   have r1:=iG hLv
   have r2:=iG hLq
   have hqn:q<n:=byOmega
   have hmn:m<n:=byOmega
   have hlr:(aa ak L).length=n:=by rw[cz];exact hlen
   refine' run (I e1 (I e2 (I e3 (I e4 (I e5 (I r1 (I r2 (I hlr (I (eq_true hi) hne2))))))))) (lv (fun hq=>o4 fun K hK=> ?_) tt)
   (refine d9 [1] (xQ h v x hv hpx) ?_)
   cases hlt:aP h v x
   ·have d1:decide (gm (ed h v) (ed h x)<0)=false:=by rw[qg];exact hlt
    (revert K;refine bK ?_;refine' run (I e1 (I e2 (I e3 (I e4 (I e5 (I r1 (I r2 (I hlr (I hne2 d1))))))))) (l3 fun hq=> ?_))
    refine⟨⟨(q+1,j),by show a≤q+1;omega,by show q+1≤j;omega,g3,fun k' v' hk' h'=> ?_,g5⟩,id,?_,mS⟩
    ·have h':a+k'<q+1:=h'
     exact(kK h).ntr _ _ _ (ny (kK h) sU hk' hx byOmega) hlt
    ·simp only[go_sem,↓reduceIte,hF]
     exact fun b g h=>by have:=hF2 b g h;omega
   ·have d1:decide (gm (ed h v) (ed h x)<0)=true:=by rw[qg];exact hlt
    (revert K;refine bK ?_;refine' run (I e1 (I e2 (I e3 (I e4 (I e5 (I r1 (I r2 (I hlr (I hne2 d1))))))))) (l3 fun hq=> ?_))
    refine⟨⟨(i,q),g1,hij.2,by show q≤_;omega,g4,fun k' v' hk' h'=> ?_⟩,id,?_,mS⟩
    ·have h':q≤a+k':=h'
     exact(kK h).lt_of hlt (ny (kK h) sU hx hk' byOmega)
    ·simp only[go_sem,↓reduceIte,hF]
     exact fun b g h=>by have:=hF2 b g h;omega
  ·obtain rfl:i=j:=byOmega
   have f1:=hfin i g1 g3
   obtain⟨V1,hV1⟩:∃V1,V1=U.take (i-a):=⟨_,rfl⟩
   obtain⟨V2,hV2⟩:∃V2,V2=U.drop (i-a):=⟨_,rfl⟩
   rw[←hV1,←hV2] at f1
   have hVe:U=V1++V2:=by rw[hV1,hV2,List.take_append_drop]
   have hV1l:V1.length=i-a:=by rw[hV1,List.length_take];omega
   have k1:∀x,x∈V1→aP h v x=false:=fun v hv=>by
    obtain⟨k,hk,rfl⟩:=List.mem_iff_getElem.1 hv
    exact g4 k _ (by rw[hVe,List.getElem?_append_left hk,List.getElem?_eq_getElem hk]) byOmega
   have k2:∀x,x∈V2→aP h v x=true:=fun v hv=>by
    obtain⟨k,hk,rfl⟩:=List.mem_iff_getElem.1 hv
    exact g5 (V1.length+k) _ (by rw[hVe,List.getElem?_append_right byOmega,Nat.add_sub_cancel_left,List.getElem?_eq_getElem hk]) byOmega
   have hres:=J5 k1 k2
   rw[←hVe] at hres
   have hVl:=congrArg List.length hVe
   rw[List.length_append] at hVl
   refine' run tt (l3 fun hq=> ?_)
   refine aX (σ:={p:List Int×List Int // p.1++p.2=V2}) (fun s=>⟨[(17,int (i+s.1.1.length:Nat)),(0,.osl 0 1 0 n),(14,int i)],[(0,some ⟨3,aa ak (X++(V1++(s.1.1++(v::(s.1.2++Y)))))⟩),(1,some ⟨131,h.flat⟩)],9000⟩) (fun s=>s.1.1.length) id ⟨(V2,[]),by simp⟩ ?_ ?_
   ·have hmi:i+V2.length=m:=byOmega
    simp only[go_sem,↓reduceIte,hF,hmi]
    rw[f1]
    exact⟨rfl,fun b g h=>by have:=hF2 b g h;omega⟩
   ·rintro⟨⟨P,Q⟩,q1⟩
    simp only at q1
    have q1l:P.length+Q.length=V2.length:=by rw[←q1,List.length_append]
    rcases List.eq_nil_or_concat P with hP|⟨P',x,hP⟩
    ·have c2:decide ((i:Int)<((i+P.length:Nat):Int))=false:=by
      rw[hP];simp
     rw[hP,List.nil_append] at q1
     refine' run c2 (l3 fun hq=> ?_)
     rw[hres,hP,q1]
     simp
    ·rw[List.concat_eq_append] at hP
     have hPl:P.length=P'.length+1:=by rw[hP];simp
     have c2:decide ((i:Int)<((i+P.length:Nat):Int))=true:=by simp;omega
     have e6:IntKind.i64.wrap (((i+P.length:Nat):Int)-1)=((i+P'.length:Nat):Int):=wE
     have hLe:X++(V1++(P++(v::(Q++Y))))=(X++V1++P')++x::v::(Q++Y):=by rw[hP];simp
     have hLx:(X++(V1++(P++(v::(Q++Y)))))[i+P.length]? =some v:=by
      rw[hLe,show(X++V1++P')++x::v::(Q++Y)=(X++V1++P'++[x])++v::(Q++Y) by simp];exact iQ _ _ _ _ (by simp;omega)
     have hLp:(X++(V1++(P++(v::(Q++Y)))))[i+P'.length]? =some x:=by
      rw[hLe];exact iQ _ _ _ _ (by simp;omega)
     have hLn:(X++(V1++(P++(v::(Q++Y))))).length=n:=by
      simp only[List.length_append,List.length_cons];omega
     have hst:=AQ (X++V1++P') (Q++Y) x v (i+P.length) (i+P'.length) (by simp;omega) (by simp;omega)
     rw[←hLe] at hst
     have hz:=fF (l:=X++(V1++(P++(v::(Q++Y))))) byOmega
     generalize X++(V1++(P++(v::(Q++Y))))=M at *
     have r1:=iG hLx
     have r2:=iG hLp
     have hn1:(aa ak M).length=n:=by rw[cz,hLn]
     have hn2:(aa ak (M.set (i+P.length) x)).length=n:=by rw[cz,List.length_set,hLn]
     have s1:=mW M (i+P.length) x byOmega
     have s2:=mW (M.set (i+P.length) x) (i+P'.length) v (by rw[List.length_set];omega)
     rw[hst] at s2
     refine' run (I c2 (I e6 (I r1 (I r2 (I hn1 (I hn2 (I hz (I s1 s2)))))))) (l3 fun hq=> ?_)
     refine⟨⟨(P',x::Q),by rw[←q1,hP];simp⟩,id,?_,mS⟩
     simp only[go_sem,↓reduceIte,hF]
     refine⟨?_,fun b g h=>by have:=hF2 b g h;omega⟩
     simp
end
end Go.Proofs.YtlikpcpllahalaaGreat.V
