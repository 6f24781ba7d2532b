/- Parts of the proof. -/
import Derived.Test.YtlikpcpllahalaaGreatG42
import Derived.Test.YtlikpcpllahalaaGreatG16
set_option maxHeartbeats 16000000
set_option linter.unusedSimpArgs false
set_option linter.unusedVariables false
namespace Go.Proofs.YtlikpcpllahalaaGreat.V
open Go.RowKit
set_option maxRecDepth 100000
def nL (X U V Y:List Stp):Prop:=
 aC Tryz.prog 157 [(0,⟨172,aa aO (X++(U++(V++Y)))⟩)] [.osl 0 4 0 (X++(U++(V++Y))).length,int X.length,int (X.length+U.length:Nat),int (X.length+U.length+V.length:Nat),.v (.func (.func 63) #[] #[])] (.tup []) [(0,some ⟨172,aa aO (X++(bz (aK) U V++Y))⟩)]
theorem Ze (X U V Y:List Stp) (hl:(X++(U++(V++Y))).length≤100000) (hU:∀x,x∈U→True) (hV:∀x,x∈V→True) (sU:Srt (aK) U) (sV:Srt (aK) V) (lU:2≤U.length) (lV:2≤V.length)
 (ih:∀(X' U' V' Y':List Stp),U'.length+V'.length<U.length+V.length→(X'++(U'++(V'++Y'))).length≤100000→0<U'.length→0<V'.length→(∀x,x∈U'→True)→(∀x,x∈V'→True)→Srt (aK) U'→Srt (aK) V'→nL X' U' V' Y'):
 nL X U V Y:=by
 unfold nL
 have hne2:=gQ (l:=X++(U++(V++Y))) (by simp;omega)
 have hlen:(X++(U++(V++Y))).length=X.length+U.length+V.length+Y.length:=by simp;omega
 have hLu:∀k x,U[k]? =some x→(X++(U++(V++Y)))[X.length+k]? =some x:=fun k x hk=>qm hk rfl
 have hLv:∀k x,V[k]? =some x→(X++(U++(V++Y)))[X.length+U.length+k]? =some x:=fun k x hk=>by rw[←List.append_assoc];exact qm hk ai
 rw[hlen] at hl ⊢
 generalize hn:X.length+U.length+V.length+Y.length=N at *
 generalize hLL:X++(U++(V++Y))=L at *
 generalize ha:X.length=a at *
 generalize hm:a+U.length=m at *
 generalize hb:m+V.length=b at *
 have hmid:(a+b)/2<b∧a≤(a+b)/2∧a+b≤2*((a+b)/2)+1∧2*((a+b)/2)≤a+b:=byOmega
 refine aW 1 Tryz.func157 (fun cx hN hR hF hL=> ?_) (by simp[go_sem,hne2,qy])
 have hF2:∀b g,cx.F b=some g→b<3000:=fun b g h=>by
  have:=hF b g h
  simp[inl] at this
  omega
 have w1:IntKind.i64.wrap ((m:Int)-a)=((U.length:Nat):Int):=wE
 have w1':(((U.length:Nat):Int)=1)=False:=by simp;omega
 have w2:IntKind.i64.wrap ((b:Int)-m)=((V.length:Nat):Int):=wE
 have w2':(((V.length:Nat):Int)=1)=False:=by simp;omega
 have w3:IntKind.i64.wrap ((a:Int)+b)=((a+b:Nat):Int):=wE
 have w4:IntKind.u64.wrap ((a+b:Nat):Int)=((a+b:Nat):Int):=by rw[iH]<;>omega
 have w5:=ql (a+b)
 generalize hmd:(a+b)/2=mid at *
 have w6:IntKind.i64.wrap (mid:Int)=(mid:Int):=wE
 have w7:IntKind.i64.wrap ((mid:Int)+m)=((mid+m:Nat):Int):=wE
 have w8:IntKind.i64.wrap (((mid+m:Nat):Int)-1)=((mid+m-1:Nat):Int):=wE
 refine'(fun key=> ?main) (Je (c:= ?c) (Q:= ?Q) mixed (κ:={k:Nat×Nat // (a≤k.1∧k.1≤k.2∧k.2≤m∧k.2≤mid∧mid+m≤k.1+b)∧Hid ((k.1=a∨mid+m=k.1+b)∧(k.2=m∨k.2=mid))}) (σ:=fun k=>{p:Nat×Nat // k.1.1≤p.1∧p.1≤p.2∧p.2≤k.1.2∧(k.1.1<p.1→∀x y,U[p.1-1-a]? =some x→V[mid-p.1]? =some y→aK y x=false)∧(p.2<k.1.2→∀x y,U[p.2-a]? =some x→V[mid-1-p.2]? =some y→aK y x=true)})
  (fun k s=>⟨[(20,int s.1.1),(21,int s.1.2),(0,.osl 0 4 0 N),(1,int a),(2,int m),(3,int b),(18,int mid),(19,int (mid+m:Nat)),(22,int (mid+m-1:Nat)),(4,.v (.func (.func 63) #[] #[]))],[(0,some ⟨172,aa aO L⟩)],20000⟩) (fun k s=>s.1.2-s.1.1) ?round)
 case main=>
  obtain⟨c,s0,r0,c1,hz,Q1,Q2⟩:∃(c:Bool) (s0 r0:Nat),decide ((mid:Int)<(m:Int))=c∧Hid (c=true∧((mid+m:Nat):Int)-b=(s0:Int)∧(mid:Int)=(r0:Int)∨c=false∧(a:Int)=(s0:Int)∧(m:Int)=(r0:Int))∧
   (a≤s0∧s0≤r0∧r0≤m∧r0≤mid∧mid+m≤s0+b)∧Hid ((s0=a∨mid+m=s0+b)∧(r0=m∨r0=mid)):=by
   unfold Hid
   by_cases hgt:mid<m
   ·exact⟨true,mid+m-b,mid,by simp;omega,.inl ⟨rfl,by omega,by omega⟩,by omega,by omega⟩
   ·exact⟨false,a,m,by simp;omega,.inr ⟨rfl,by omega,by omega⟩,by omega,by omega⟩
  have w9:IntKind.i64.wrap (((mid+m:Nat):Int)-b)=((mid+m:Nat):Int)-b:=wE
  rcases(show _∨_ from hz) with⟨rfl,z⟩|⟨rfl,z⟩
  all_goals
   have Z:Hid _:=z
   clear z hz
   refine' run (I w1 (I w1' (I w2 (I w2' (I w3 (I w4 (I w5 (I w6 (I w7 (I w8 (I w9 c1))))))))))) (lv (fun hq=>fun hq=>fun hq=>lf ?_) tt)
   refine key ⟨(s0,r0),Q1,Q2⟩ ⟨(s0,r0),Nat.le_refl _,Q1.2.1,Nat.le_refl _,fun h=>(Nat.lt_irrefl _ h).elim,fun h=>(Nat.lt_irrefl _ h).elim⟩ _ (by rw[hN];kernel_rfl) ?_
   simp only[go_sem,↓reduceIte,hF]
   exact⟨⟨Z.1,Z.2⟩,fun b g h=>by have:=hF2 b g h;omega⟩
 case round=>
  clear w1 w1' w2 w2' w3 w4 w5 w6 w7 w8 hmd
  rintro⟨⟨s0,r0⟩,Q1,Q2⟩
  dsimp only
  rintro⟨⟨i,j⟩,g1,g2,g3,g4,g5⟩
  simp only at Q1 Q2 g1 g2 g3 g4 g5
  by_cases hi:i<j
  ·have hij:(i+j)/2<j∧i≤(i+j)/2:=byOmega
   have e1:IntKind.i64.wrap ((i:Int)+j)=((i+j:Nat):Int):=wE
   have e2:IntKind.u64.wrap ((i+j:Nat):Int)=((i+j:Nat):Int):=by rw[iH]<;>omega
   have e3:=ql (i+j)
   generalize hqq:(i+j)/2=q at *
   have e4:IntKind.i64.wrap (q:Int)=(q:Int):=wE
   have e5:=wS q
   obtain⟨k,hk⟩:∃k,q=a+k:=⟨q-a,by omega⟩
   obtain⟨k',hk'⟩:∃k',mid-1-q=k':=⟨_,rfl⟩
   have e6:IntKind.i64.wrap (((mid+m-1:Nat):Int)-q)=((m+k':Nat):Int):=wE
   have hk2:k<U.length:=byOmega
   have hk3:k'<V.length:=byOmega
   have hx:U[k]? =some U[k]:=List.getElem?_eq_getElem hk2
   have hpx:True:=hU _ (List.getElem_mem hk2)
   have hy:V[k']? =some V[k']:=List.getElem?_eq_getElem hk3
   have hpy:True:=hV _ (List.getElem_mem hk3)
   have hLq:=hLu k _ hx
   have hLp:=hLv k' _ hy
   rw[←hk] at hLq
   generalize U[k]=x at *
   generalize V[k']=y at *
   have r1:=jm hLp
   have r2:=jm hLq
   have hqn:q<N:=byOmega
   have hmn:m+k'<N:=byOmega
   have hlr:(aa aO L).length=N*4:=by rw[jV,hlen]
   refine' run (I e1 (I e2 (I e3 (I e4 (I e5 (I e6 (I r1 (I r2 (I hlr (I (eq_true hi) (I hne2 (I hqn hmn)))))))))))) (lv (fun hq=>o4 fun K hK=> ?_) tt)
   (refine bR xq (yh y x) ai ?_)
   cases hlt:aK y x
   ·have d1:decide (mi y x<0)=false:=by rw[qA];exact hlt
    (revert K;refine bK ?_;refine' run (I e1 (I e2 (I e3 (I e4 (I e5 (I e6 (I r1 (I r2 (I hlr (I hne2 (I d1 (I hqn hmn)))))))))))) (Go.Proofs.YtlikpcpllahalaaGreat.V.l3 fun hq=> ?_))
    refine⟨⟨(q+1,j),by show s0≤q+1;omega,by show q+1≤j;omega,g3,fun _ x' y' h1 h2=> ?_,g5⟩,id,?_,mS⟩
    ·have h1:U[q+1-1-a]? =some x':=h1
     have h2:V[mid-(q+1)]? =some y':=h2
     rw[show q+1-1-a=k by omega,hx] at h1
     rw[show mid-(q+1)=k' by omega,hy] at h2
     cases h1;cases h2
     exact hlt
    ·simp only[go_sem,↓reduceIte,hF]
     exact fun b g h=>by have:=hF2 b g h;omega
   ·have d1:decide (mi y x<0)=true:=by rw[qA];exact hlt
    (revert K;refine bK ?_;refine' run (I e1 (I e2 (I e3 (I e4 (I e5 (I e6 (I r1 (I r2 (I hlr (I hne2 (I d1 (I hqn hmn)))))))))))) (Go.Proofs.YtlikpcpllahalaaGreat.V.l3 fun hq=> ?_))
    refine⟨⟨(i,q),g1,hij.2,by show q≤_;omega,g4,fun _ x' y' h1 h2=> ?_⟩,id,?_,mS⟩
    ·have h1:U[q-a]? =some x':=h1
     have h2:V[mid-1-q]? =some y':=h2
     rw[show q-a=k by omega,hx] at h1
     rw[hk',hy] at h2
     cases h1;cases h2
     exact hlt
    ·simp only[go_sem,↓reduceIte,hF]
     exact fun b g h=>by have:=hF2 b g h;omega
  ·obtain rfl:i=j:=byOmega
   clear hi
   obtain⟨e,he⟩:∃e,e=mid+m-i:=⟨_,rfl⟩
   have w1:IntKind.i64.wrap (((mid+m:Nat):Int)-i)=(e:Int):=wE
   obtain⟨U1,hU1⟩:∃U1,U1=U.take (i-a):=⟨_,rfl⟩
   obtain⟨U2,hU2⟩:∃U2,U2=U.drop (i-a):=⟨_,rfl⟩
   obtain⟨V1,hV1⟩:∃V1,V1=V.take (mid-i):=⟨_,rfl⟩
   obtain⟨V2,hV2⟩:∃V2,V2=V.drop (mid-i):=⟨_,rfl⟩
   have hUe:U=U1++U2:=by rw[hU1,hU2,List.take_append_drop]
   have hVe:V=V1++V2:=by rw[hV1,hV2,List.take_append_drop]
   have lU1:U1.length=i-a:=by rw[hU1,List.length_take];omega
   have lV1:V1.length=mid-i:=by rw[hV1,List.length_take];omega
   have lUe:U.length=U1.length+U2.length:=by rw[←List.length_append,←hUe]
   have lVe:V.length=V1.length+V2.length:=by rw[←List.length_append,←hVe]
   have hcut:=halves (jo) sU sV hUe hVe (fun l1 l2 x y h1 h2=>by
    refine g4 ?_ x y (by rw[←h1];congr 1;omega) (by rw[←h2,lV1])
    rcases Q2.1 with hq|hq<;>omega) (fun l1 l2 x y h1 h2=>by
    refine g5 ?_ x y (by rw[←h1,lU1]) (by rw[←h2];congr 1;omega)
    rcases Q2.2 with hq|hq<;>omega)
   clear Q2
   obtain⟨L2,hL2⟩:∃L2,L2=X++(U1++(V1++(U2++(V2++Y)))):=⟨_,rfl⟩
   obtain⟨L3,hL3⟩:∃L3,L3=X++(bz (aK) U1 V1++(U2++(V2++Y))):=⟨_,rfl⟩
   obtain⟨L4,hL4⟩:∃L4,L4=X++(bz (aK) U V++Y):=⟨_,rfl⟩
   have hL1:L=X++(U1++(U2++(V1++(V2++Y)))):=by rw[←hLL,hUe,hVe];simp
   have n1:L.length=N:=hlen
   have n2:L2.length=N:=by rw[hL2];simp only[List.length_append];omega
   have n3:L3.length=N:=by rw[hL3];simp only[List.length_append,qj];omega
   have hres:L4=X++(bz (aK) U1 V1++(bz (aK) U2 V2++Y)):=by rw[hL4,hcut];simp
   have cR:0<U2.length→0<V1.length→aC Tryz.prog 196 [(0,⟨172,aa aO L⟩)] [.osl 0 4 0 N,int i,int m,int e,.v (.func (.func 63) #[] #[])] (.tup []) [(0,some ⟨172,aa aO L2⟩)]:=fun p1 p2=>by
    have c:=Zb (X++U1) U2 V1 (V2++Y) m (by rw[List.length_append];omega) p1 p2 (by simp only[List.length_append];omega)
    rw[show(X++U1)++(U2++(V1++(V2++Y)))=L by rw[hL1];simp,show(X++U1)++(V1++(U2++(V2++Y)))=L2 by rw[hL2];simp,n1,show(X++U1).length=i by rw[List.length_append];omega,show m+V1.length=e by omega] at c
    exact c
   have yB:0<U1.length→0<V1.length→aC Tryz.prog 157 [(0,⟨172,aa aO L2⟩)] [.osl 0 4 0 N,int a,int i,int mid,.v (.func (.func 63) #[] #[])] (.tup []) [(0,some ⟨172,aa aO L3⟩)]:=fun p1 p2=>by
    have c:=ih X U1 V1 (U2++(V2++Y)) byOmega (by rw[←hL2];omega) p1 p2 (fun x hx=>hU x (by rw[hUe];simp[hx])) (fun x hx=>hV x (by rw[hVe];simp[hx])) (Srt.app.1 (hUe▸sU)).1 (Srt.app.1 (hVe▸sV)).1
    unfold nL at c
    rw[←hL2,←hL3,n2,ha,show a+U1.length=i by omega,show i+V1.length=mid by omega] at c
    exact c
   have cB:0<U2.length→0<V2.length→aC Tryz.prog 157 [(0,⟨172,aa aO L3⟩)] [.osl 0 4 0 N,int mid,int e,int b,.v (.func (.func 63) #[] #[])] (.tup []) [(0,some ⟨172,aa aO L4⟩)]:=fun p1 p2=>by
    have c:=ih (X++bz (aK) U1 V1) U2 V2 Y byOmega (by simp only[List.length_append,qj];omega) p1 p2 (fun x hx=>hU x (by rw[hUe];simp[hx])) (fun x hx=>hV x (by rw[hVe];simp[hx])) (Srt.app.1 (hUe▸sU)).2.1 (Srt.app.1 (hVe▸sV)).2.1
    unfold nL at c
    rw[show(X++bz (aK) U1 V1)++(U2++(V2++Y))=L3 by rw[hL3];simp,show(X++bz (aK) U1 V1)++(bz (aK) U2 V2++Y)=L4 by rw[hres];simp,n3,show(X++bz (aK) U1 V1).length=mid by rw[List.length_append,qj];omega,show mid+U2.length=e by omega,show e+V2.length=b by omega] at c
    exact c
   have t1:(decide ((i:Int)<(m:Int))&&decide ((m:Int)<(e:Int)))=false→L=L2:=fun hf=>by
    have:U2=[]∨V1=[]:=by
     simp only[Bool.and_eq_false_iff,decide_eq_false_iff_not] at hf
     rcases hf with hf|hf
     ·exact .inl (List.eq_nil_of_length_eq_zero byOmega)
     ·exact .inr (List.eq_nil_of_length_eq_zero byOmega)
    rw[hL1,hL2]
    rcases this with h|h<;>rw[h]<;>simp
   have t2:(decide ((a:Int)<(i:Int))&&decide ((i:Int)<(mid:Int)))=false→L2=L3:=fun hf=>by
    have:U1=[]∨V1=[]:=by
     simp only[Bool.and_eq_false_iff,decide_eq_false_iff_not] at hf
     rcases hf with hf|hf
     ·exact .inl (List.eq_nil_of_length_eq_zero byOmega)
     ·exact .inr (List.eq_nil_of_length_eq_zero byOmega)
    rw[hL2,hL3]
    rcases this with h|h<;>rw[h]<;>simp
   have t3:(decide ((mid:Int)<(e:Int))&&decide ((e:Int)<(b:Int)))=false→L3=L4:=fun hf=>by
    have:U2=[]∨V2=[]:=by
     simp only[Bool.and_eq_false_iff,decide_eq_false_iff_not] at hf
     rcases hf with hf|hf
     ·exact .inl (List.eq_nil_of_length_eq_zero byOmega)
     ·exact .inr (List.eq_nil_of_length_eq_zero byOmega)
    rw[hL3,hres]
    rcases this with h|h<;>rw[h]<;>simp
   have k1:(decide ((i:Int)<(m:Int))&&decide ((m:Int)<(e:Int)))=true→0<U2.length∧0<V1.length:=fun hf=>by
    simp only[Bool.and_eq_true,decide_eq_true_eq] at hf;omega
   have k2:(decide ((a:Int)<(i:Int))&&decide ((i:Int)<(mid:Int)))=true→0<U1.length∧0<V1.length:=fun hf=>by
    simp only[Bool.and_eq_true,decide_eq_true_eq] at hf;omega
   have k3:(decide ((mid:Int)<(e:Int))&&decide ((e:Int)<(b:Int)))=true→0<U2.length∧0<V2.length:=fun hf=>by
    simp only[Bool.and_eq_true,decide_eq_true_eq] at hf;omega
   rw[←hL4]
   have hz1:=gQ (l:=L) byOmega
   have hz2:=gQ (l:=L2) byOmega
   have hz3:=gQ (l:=L3) byOmega
   have hii:decide ((i:Int)<(i:Int))=false:=by simp
   clear hLu hLv hL1 hL2 hL3 hL4 hres hcut ih sU sV lU lV hU hV hU1 hU2 hV1 hV2 hUe hVe lU1 lV1 lUe lVe hlen hn hl hLL ha hm hb hmid he n1 n2 n3 hL
   rcases Bool.eq_false_or_eq_true (decide ((i:Int)<(m:Int))&&decide ((m:Int)<(e:Int))) with b1|b1<;>rcases Bool.eq_false_or_eq_true (decide ((a:Int)<(i:Int))&&decide ((i:Int)<(mid:Int))) with b2|b2<;>rcases Bool.eq_false_or_eq_true (decide ((mid:Int)<(e:Int))&&decide ((e:Int)<(b:Int))) with b3|b3
   all_goals(try rw[t1 b1])
   all_goals(try rw[t2 b2])
   all_goals(try rw[t3 b3])
   all_goals clear t1
   case inl.inl.inl=>
    refine' run (I w1 (I b1 (I b2 (I b3 (I hz1 (I hz2 (I hz3 (I hne2 hii)))))))) (lv (fun hq=>fun hq=>o4 fun K hK=> ?_) tt)
    (refine aB [0] (cR (k1 b1).1 (k1 b1).2) ?_)
    (revert K;refine bK ?_;refine' run (I w1 (I b1 (I b2 (I b3 (I hz1 (I hz2 (I hz3 (I hne2 hii)))))))) (lv (fun hq=>o4 fun K hK=> ?_) tt))
    (refine aB [0] (yB (k2 b2).1 (k2 b2).2) ?_)
    (revert K;refine bK ?_;refine' run (I w1 (I b1 (I b2 (I b3 (I hz1 (I hz2 (I hz3 (I hne2 hii)))))))) (lv (fun hq=>o4 fun K hK=> ?_) tt))
    (refine aB [0] (cB (k3 b3).1 (k3 b3).2) ?_)
    (revert K;refine bK ?_;exact run (I w1 (I b1 (I b2 (I b3 (I hz1 (I hz2 (I hz3 (I hne2 hii)))))))) tt)
   case inl.inl.inr=>
    refine' run (I w1 (I b1 (I b2 (I b3 (I hz1 (I hz2 (I hz3 (I hne2 hii)))))))) (lv (fun hq=>fun hq=>o4 fun K hK=> ?_) tt)
    (refine aB [0] (cR (k1 b1).1 (k1 b1).2) ?_)
    (revert K;refine bK ?_;refine' run (I w1 (I b1 (I b2 (I b3 (I hz1 (I hz2 (I hz3 (I hne2 hii)))))))) (lv (fun hq=>o4 fun K hK=> ?_) tt))
    (refine aB [0] (yB (k2 b2).1 (k2 b2).2) ?_)
    rw[t3 b3]
    (revert K;refine bK ?_;exact run (I w1 (I b1 (I b2 (I b3 (I hz1 (I hz2 (I hz3 (I hne2 hii)))))))) tt)
   case inl.inr.inl=>
    refine' run (I w1 (I b1 (I b2 (I b3 (I hz1 (I hz2 (I hz3 (I hne2 hii)))))))) (lv (fun hq=>fun hq=>o4 fun K hK=> ?_) tt)
    (refine aB [0] (cR (k1 b1).1 (k1 b1).2) ?_)
    rw[t2 b2]
    (revert K;refine bK ?_;refine' run (I w1 (I b1 (I b2 (I b3 (I hz1 (I hz2 (I hz3 (I hne2 hii)))))))) (lv (fun hq=>fun hq=>o4 fun K hK=> ?_) tt))
    (refine aB [0] (cB (k3 b3).1 (k3 b3).2) ?_)
    (revert K;refine bK ?_;exact run (I w1 (I b1 (I b2 (I b3 (I hz1 (I hz2 (I hz3 (I hne2 hii)))))))) tt)
   case inl.inr.inr=>
    refine' run (I w1 (I b1 (I b2 (I b3 (I hz1 (I hz2 (I hz3 (I hne2 hii)))))))) (lv (fun hq=>fun hq=>o4 fun K hK=> ?_) tt)
    (refine aB [0] (cR (k1 b1).1 (k1 b1).2) ?_)
    rw[t2 b2]
    rw[t3 b3]
    (revert K;refine bK ?_;exact run (I w1 (I b1 (I b2 (I b3 (I hz1 (I hz2 (I hz3 (I hne2 hii)))))))) tt)
   case inr.inl.inl=>
    refine' run (I w1 (I b1 (I b2 (I b3 (I hz1 (I hz2 (I hz3 (I hne2 hii)))))))) (lv (fun hq=>fun hq=>fun hq=>o4 fun K hK=> ?_) tt)
    (refine aB [0] (yB (k2 b2).1 (k2 b2).2) ?_)
    (revert K;refine bK ?_;refine' run (I w1 (I b1 (I b2 (I b3 (I hz1 (I hz2 (I hz3 (I hne2 hii)))))))) (lv (fun hq=>o4 fun K hK=> ?_) tt))
    (refine aB [0] (cB (k3 b3).1 (k3 b3).2) ?_)
    (revert K;refine bK ?_;exact run (I w1 (I b1 (I b2 (I b3 (I hz1 (I hz2 (I hz3 (I hne2 hii)))))))) tt)
   case inr.inl.inr=>
    refine' run (I w1 (I b1 (I b2 (I b3 (I hz1 (I hz2 (I hz3 (I hne2 hii)))))))) (lv (fun hq=>fun hq=>fun hq=>o4 fun K hK=> ?_) tt)
    (refine aB [0] (yB (k2 b2).1 (k2 b2).2) ?_)
    rw[t3 b3]
    (revert K;refine bK ?_;exact run (I w1 (I b1 (I b2 (I b3 (I hz1 (I hz2 (I hz3 (I hne2 hii)))))))) tt)
   case inr.inr.inl=>
    refine' run (I w1 (I b1 (I b2 (I b3 (I hz1 (I hz2 (I hz3 (I hne2 hii)))))))) (lv (fun hq=>fun hq=>fun hq=>fun hq=>o4 fun K hK=> ?_) tt)
    (refine aB [0] (cB (k3 b3).1 (k3 b3).2) ?_)
    (revert K;refine bK ?_;exact run (I w1 (I b1 (I b2 (I b3 (I hz1 (I hz2 (I hz3 (I hne2 hii)))))))) tt)
   case inr.inr.inr=>
    exact run (I w1 (I b1 (I b2 (I b3 (I hz1 (I hz2 (I hz3 (I hne2 hii)))))))) tt
theorem Mw:∀(n:Nat) (X U V Y:List Stp),U.length+V.length≤n→(X++(U++(V++Y))).length≤100000→0<U.length→0<V.length→(∀x,x∈U→True)→(∀x,x∈V→True)→Srt (aK) U→Srt (aK) V→nL X U V Y:=by
 intro n
 induction n with
 |zero=>intro X U V Y h1 _ h2;omega
 |succ n ih=>
  intro X U V Y h1 hl hu hv hU hV sU sV
  by_cases h2:U.length=1
  ·obtain⟨u,rfl⟩:=List.length_eq_one_iff.1 h2
   have c:=Zc X V Y u (by simpa using hl) (hU u ai) hV sV
   unfold nL
   simpa using c
  ·by_cases h3:V.length=1
   ·obtain⟨v,rfl⟩:=List.length_eq_one_iff.1 h3
    have c:=Zd X U Y v (by simpa using hl) (hV v ai) hU sU h2
    unfold nL
    simpa using c
   ·exact Ze X U V Y hl hU hV sU sV byOmega byOmega fun X' U' V' Y' k1 k2 k3 k4 k5 k6 k7 k8=>ih X' U' V' Y' byOmega k2 k3 k4 k5 k6 k7 k8
end Go.Proofs.YtlikpcpllahalaaGreat.V
