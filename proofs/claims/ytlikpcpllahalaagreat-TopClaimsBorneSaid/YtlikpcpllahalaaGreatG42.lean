/- Parts of the proof. -/
import Derived.Test.YtlikpcpllahalaaGreatG41
set_option maxHeartbeats 16000000
set_option linter.unusedSimpArgs false
set_option linter.unusedVariables false
namespace Go.Proofs.YtlikpcpllahalaaGreat.V
open Go.RowKit
set_option maxRecDepth 100000
attribute [local go_sem] Int.reduceEq in
theorem Zd (X U Y:List Stp) (v:Stp) (hl:(X++(U++(v::Y))).length≤100000) (hv:True) (hU:∀x,x∈U→True) (sU:Srt (aK) U) (hU1:U.length≠1):
 aC Tryz.prog 157 [(0,⟨172,aa aO (X++(U++(v::Y)))⟩)] [.osl 0 4 0 (X++(U++(v::Y))).length,int X.length,int (X.length+U.length:Nat),int (X.length+U.length+1:Nat),.v (.func (.func 63) #[] #[])] (.tup []) [(0,some ⟨172,aa aO (X++(bz (aK) U [v]++Y))⟩)]:=by
 have hne2:=gQ (l:=X++(U++(v::Y))) (by simp;omega)
 have hlen:(X++(U++(v::Y))).length=X.length+U.length+1+Y.length:=by simp;omega
 have hLv:(X++(U++(v::Y)))[X.length+U.length]? =some v:=by rw[←List.append_assoc];exact iQ _ _ _ _ ai
 have hLu:∀k x,U[k]? =some x→(X++(U++(v::Y)))[X.length+k]? =some x:=fun k x hk=>qm hk rfl
 have hfin:∀i,X.length≤i→i≤X.length+U.length→X++(U++(v::Y))=X++(U.take (i-X.length)++(U.drop (i-X.length)++(v::([]++Y)))):=fun i _ _=>by
  rw[←List.append_assoc (U.take _),List.take_append_drop];rfl
 rw[hlen] at hl ⊢
 generalize hn:X.length+U.length+1+Y.length=n at *
 generalize hLL:X++(U++(v::Y))=L at *
 generalize ha:X.length=a at *
 generalize hm:a+U.length=m at *
 refine aW 1 Tryz.func157 (fun cx hN hR hF hL=> ?_) (by simp[go_sem,hne2,qy])
 have hF2:∀b g,cx.F b=some g→b<3000:=fun b g h=>by
  have:=hF b g h
  simp[inl] at this
  omega
 have w1:IntKind.i64.wrap ((m:Int)-a)=((U.length:Nat):Int):=wE
 have w1':(((U.length:Nat):Int)=1)=False:=by simp;omega
 have w2:IntKind.i64.wrap (((m+1:Nat):Int)-m)=1:=wE
 refine' run (I w1 (I w1' w2)) (lv (fun hq=>fun hq=>lf ?_) tt)
 refine iD mixed (σ:={p:Nat×Nat // a≤p.1∧p.1≤p.2∧p.2≤m∧(∀(k:Nat) x,U[k]? =some x→a+k<p.1→aK v x=false)∧(∀(k:Nat) x,U[k]? =some x→p.2≤a+k→aK v x=true)})
  (fun s=>⟨[(14,int s.1.1),(15,int s.1.2),(0,.osl 0 4 0 n),(2,int m),(4,.v (.func (.func 63) #[] #[]))],[(0,some ⟨172,aa aO L⟩)],5000⟩) (fun s=>s.1.2-s.1.1) id
  ⟨(a,m),Nat.le_refl _,by omega,Nat.le_refl _,fun k v _ h=>by omega,fun k v hk h=>by have:=(List.getElem?_eq_some_iff.1 hk).1;omega⟩ (by rw[hN];kernel_rfl) ?_ ?_
 ·simp only[go_sem,↓reduceIte,hF]
  exact fun b g h=>by have:=hF2 b g h;omega
 ·rintro⟨⟨i,j⟩,g1,g2,g3,g4,g5⟩
  simp only at g1 g2 g3 g4 g5
  by_cases hi:i<j
  ·have hij:(i+j)/2<j∧i≤(i+j)/2:=byOmega
   have e1:IntKind.i64.wrap ((i:Int)+j)=((i+j:Nat):Int):=wE
   have e2:IntKind.u64.wrap ((i+j:Nat):Int)=((i+j:Nat):Int):=by rw[iH]<;>omega
   have e3:=ql (i+j)
   generalize hqq:(i+j)/2=q at *
   have e4:IntKind.i64.wrap (q:Int)=(q:Int):=wE
   have e5:=wS q
   obtain⟨k,hk⟩:∃k,q=a+k:=⟨q-a,by omega⟩
   have hk2:k<U.length:=byOmega
   have hx:U[k]? =some U[k]:=List.getElem?_eq_getElem hk2
   have hpx:True:=hU _ (List.getElem_mem hk2)
   have hLq:=hLu k _ hx
   rw[←hk] at hLq
   generalize U[k]=x at *
   have r1:=jm hLv
   have r2:=jm hLq
   have hqn:q<n:=byOmega
   have hmn:m<n:=byOmega
   have hlr:(aa aO L).length=n*4:=by rw[jV,hlen]
   refine' run (I e1 (I e2 (I e3 (I e4 (I e5 (I r1 (I r2 (I hlr (I (eq_true hi) (I hne2 (I hqn hmn))))))))))) (lv (fun hq=>o4 fun K hK=> ?_) tt)
   (refine bR xq (yh v x) ai ?_)
   cases hlt:aK v x
   ·have d1:decide (mi v x<0)=false:=by rw[qA];exact hlt
    (revert K;refine bK ?_;refine' run (I e1 (I e2 (I e3 (I e4 (I e5 (I r1 (I r2 (I hlr (I hne2 (I d1 (I hqn hmn))))))))))) (V.l3 fun hq=> ?_))
    refine⟨⟨(q+1,j),by show a≤q+1;omega,by show q+1≤j;omega,g3,fun k' v' hk' h'=> ?_,g5⟩,id,?_,mS⟩
    ·have h':a+k'<q+1:=h'
     exact(jo).ntr _ _ _ (ny (jo) sU hk' hx byOmega) hlt
    ·simp only[go_sem,↓reduceIte,hF]
     exact fun b g h=>by have:=hF2 b g h;omega
   ·have d1:decide (mi v x<0)=true:=by rw[qA];exact hlt
    (revert K;refine bK ?_;refine' run (I e1 (I e2 (I e3 (I e4 (I e5 (I r1 (I r2 (I hlr (I hne2 (I d1 (I hqn hmn))))))))))) (V.l3 fun hq=> ?_))
    refine⟨⟨(i,q),g1,hij.2,by show q≤_;omega,g4,fun k' v' hk' h'=> ?_⟩,id,?_,mS⟩
    ·have h':q≤a+k':=h'
     exact(jo).lt_of hlt (ny (jo) sU hx hk' byOmega)
    ·simp only[go_sem,↓reduceIte,hF]
     exact fun b g h=>by have:=hF2 b g h;omega
  ·obtain rfl:i=j:=byOmega
   have f1:=hfin i g1 g3
   obtain⟨V1,hV1⟩:∃V1,V1=U.take (i-a):=⟨_,rfl⟩
   obtain⟨V2,hV2⟩:∃V2,V2=U.drop (i-a):=⟨_,rfl⟩
   rw[←hV1,←hV2] at f1
   have hVe:U=V1++V2:=by rw[hV1,hV2,List.take_append_drop]
   have hV1l:V1.length=i-a:=by rw[hV1,List.length_take];omega
   have k1:∀x,x∈V1→aK v x=false:=fun v hv=>by
    obtain⟨k,hk,rfl⟩:=List.mem_iff_getElem.1 hv
    exact g4 k _ (by rw[hVe,List.getElem?_append_left hk,List.getElem?_eq_getElem hk]) byOmega
   have k2:∀x,x∈V2→aK v x=true:=fun v hv=>by
    obtain⟨k,hk,rfl⟩:=List.mem_iff_getElem.1 hv
    exact g5 (V1.length+k) _ (by rw[hVe,List.getElem?_append_right byOmega,Nat.add_sub_cancel_left,List.getElem?_eq_getElem hk]) byOmega
   have hres:=J5 k1 k2
   rw[←hVe] at hres
   have hVl:=congrArg List.length hVe
   rw[List.length_append] at hVl
   refine' run tt (V.l3 fun hq=> ?_)
   refine aX (σ:={p:List Stp×List Stp // p.1++p.2=V2}) (fun s=>⟨[(17,int (i+s.1.1.length:Nat)),(0,.osl 0 4 0 n),(14,int i)],[(0,some ⟨172,aa aO (X++(V1++(s.1.1++(v::(s.1.2++Y)))))⟩)],9000⟩) (fun s=>s.1.1.length) id ⟨(V2,[]),by simp⟩ ?_ ?_
   ·have hmi:i+V2.length=m:=byOmega
    simp only[go_sem,↓reduceIte,hF,hmi]
    rw[f1]
    exact⟨rfl,fun b g h=>by have:=hF2 b g h;omega⟩
   ·rintro⟨⟨P,Q⟩,q1⟩
    simp only at q1
    have q1l:P.length+Q.length=V2.length:=by rw[←q1,List.length_append]
    rcases List.eq_nil_or_concat P with hP|⟨P',x,hP⟩
    ·have c2:decide ((i:Int)<((i+P.length:Nat):Int))=false:=by
      rw[hP];simp
     rw[hP,List.nil_append] at q1
     refine' run c2 (V.l3 fun hq=> ?_)
     rw[hres,hP,q1]
     simp
    ·rw[List.concat_eq_append] at hP
     have hPl:P.length=P'.length+1:=by rw[hP];simp
     have c2:decide ((i:Int)<((i+P.length:Nat):Int))=true:=by simp;omega
     have e6:IntKind.i64.wrap (((i+P.length:Nat):Int)-1)=((i+P'.length:Nat):Int):=wE
     have hLe:X++(V1++(P++(v::(Q++Y))))=(X++V1++P')++x::v::(Q++Y):=by rw[hP];simp
     have hLx:(X++(V1++(P++(v::(Q++Y)))))[i+P.length]? =some v:=by
      rw[hLe,show(X++V1++P')++x::v::(Q++Y)=(X++V1++P'++[x])++v::(Q++Y) by simp];exact iQ _ _ _ _ (by simp;omega)
     have hLp:(X++(V1++(P++(v::(Q++Y)))))[i+P'.length]? =some x:=by
      rw[hLe];exact iQ _ _ _ _ (by simp;omega)
     have hLn:(X++(V1++(P++(v::(Q++Y))))).length=n:=by
      simp only[List.length_append,List.length_cons];omega
     have hst:=AQ (X++V1++P') (Q++Y) x v (i+P.length) (i+P'.length) (by simp;omega) (by simp;omega)
     rw[←hLe] at hst
     have hz:=gQ (l:=X++(V1++(P++(v::(Q++Y))))) byOmega
     generalize X++(V1++(P++(v::(Q++Y))))=M at *
     have r1:=jm hLx
     have r2:=jm hLp
     have hn1:(aa aO M).length=n*4:=by rw[jV,hLn]
     have hn2:(aa aO (M.set (i+P.length) x)).length=n*4:=by rw[jV,List.length_set,hLn]
     have b1:i+P.length<n:=byOmega
     have b2:i+P'.length<n:=byOmega
     have s1:=qz M (i+P.length) x byOmega
     have s2:=qz (M.set (i+P.length) x) (i+P'.length) v (by rw[List.length_set];omega)
     rw[hst] at s2
     refine' run (I c2 (I e6 (I r1 (I r2 (I hn1 (I hn2 (I hz (I s1 (I s2 (I b1 b2)))))))))) (V.l3 fun hq=> ?_)
     refine⟨⟨(P',x::Q),by rw[←q1,hP];simp⟩,id,?_,mS⟩
     simp only[go_sem,↓reduceIte,hF]
     refine⟨?_,fun b g h=>by have:=hF2 b g h;omega⟩
     simp
end Go.Proofs.YtlikpcpllahalaaGreat.V
