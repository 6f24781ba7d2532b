/- Parts of the proof. -/
import Derived.Test.YtlikpcpllahalaaGreatG24
import Derived.Test.YtlikpcpllahalaaGreatG13
import Derived.Test.YtlikpcpllahalaaGreatG22
import Derived.Test.YtlikpcpllahalaaGreatG21
set_option maxHeartbeats 16000000
set_option linter.unusedSimpArgs false
set_option linter.unusedVariables false
namespace Go.Proofs.YtlikpcpllahalaaGreat.V
open Go.RowKit
set_option maxRecDepth 100000
theorem Ud (h:History) (l:List Int) (h0:0<l.length) (hl:l.length≤50000) (hP:∀x,x∈l→placeOf h x):
 aC Tryz.prog 231 [(0,⟨3,aa ak l⟩),(1,⟨131,h.flat⟩)] [.osl 0 1 0 l.length,int l.length,.fn (.func 205) [] [.ptr 1 0]] (.tup []) [(0,some ⟨3,aa ak (aG (aP h) l)⟩)]:=by
 have hne2:=fF h0
 generalize hn:l.length=n at *
 refine aW 2 Tryz.func231 (fun cx hN hR hF hL=> ?_) (by simp[go_sem,hne2,p8])
 have hF2:∀b g,cx.F b=some g→b<2000:=fun b g h=>by
  have:=hF b g h
  simp[inl] at this
  omega
 refine' run tt (l1 ?_)
 refine iD mixed (σ:={p:List Int×List Int // p.1++blk (aP h) 20 p.2=blk (aP h) 20 l∧p.1.length+p.2.length=n∧(∀x,x∈p.1→placeOf h x)∧∀x,x∈p.2→placeOf h x})
  (fun s=>⟨[(7,int s.1.1.length),(8,int (s.1.1.length+20:Nat)),(6,int 20),(0,.osl 0 1 0 n),(1,int n),(2,.fn (.func 205) [] [.ptr 1 0])],[(0,some ⟨3,aa ak (s.1.1++s.1.2)⟩),(1,some ⟨131,h.flat⟩)],4000⟩) (fun s=>s.1.2.length) id ⟨([],l),rfl,by simpa using hn,by simp,hP⟩ (by rw[hN];kernel_rfl) ?_ ?_
 ·have h20:((0+20:Nat):Int)=20:=rfl
  simp only[go_sem,↓reduceIte,hF,h20]
  exact⟨rfl,fun b g h=>by have:=hF2 b g h;omega⟩
 ·rintro⟨⟨D,R⟩,g1,g2,g3,g4⟩
  simp only at g1 g2 g3 g4
  by_cases hR:20≤R.length
  ·obtain⟨A,R',he,hA⟩:∃A R',R=A++R'∧A.length=20:=⟨R.take 20,R.drop 20,by simp,by simp;omega⟩
   have c1:decide (((D.length+20:Nat):Int)≤(n:Int))=true:=by simp;omega
   have w1:IntKind.i64.wrap (((D.length+20:Nat):Int)+20)=((D.length+20+20:Nat):Int):=wE
   have lR:R.length=20+R'.length:=by rw[he,List.length_append,hA]
   have hnz:=fF (l:=D++R) (by rw[List.length_append];omega)
   have c:=JX h D A R' (by simp only[List.length_append];omega) (by simp only[List.length_append];omega) (fun x hx=>g4 x (by rw[he];simp[hx]))
   rw[←he,List.length_append,g2,hA] at c
   refine' run (I c1 w1) (lv (fun hq=>o4 fun K hK=> ?_) tt)
   (refine aB [0,1] (c) ?_)
   (revert K;refine bK ?_;refine' run (I c1 w1) (l1 ?_))
   refine⟨⟨(D++aG (aP h) A,R'),by rw[←g1,he,nu hA byOmega];simp,by simp only[List.length_append,bZ];omega,fun x hx=> ?_,fun x hx=>g4 x (by rw[he];simp[hx])⟩,id,?_,mS⟩
   ·rcases List.mem_append.1 hx with hx|hx
    ·exact g3 x hx
    ·exact g4 x (by rw[he];simp[fO.1 hx])
   ·have e1:(D++aG (aP h) A).length=D.length+20:=by rw[List.length_append,bZ,hA]
    simp only[go_sem,↓reduceIte,hF,e1,List.append_assoc]
    exact fun b g h=>by have:=hF2 b g h;omega
  ·have c1:decide (((D.length+20:Nat):Int)≤(n:Int))=false:=by simp;omega
   have hnz:=fF (l:=D++R) (by rw[List.length_append];omega)
   have c:=JX h D R [] (by simp only[List.append_nil,List.length_append];omega) (by simp only[List.append_nil,List.length_append];omega) g4
   rw[List.append_nil,List.append_nil,List.length_append,g2,←jS (s:=20) (by omega:R.length≤20),g1] at c
   have hnz2:=fF (l:=blk (aP h) 20 l) (by rw[oI];omega)
   refine' run c1 (lv (fun hq=>o4 fun K hK=> ?_) tt)
   (refine aB [0,1] (c) ?_)
   (revert K;refine bK ?_;refine' run c1 (l1 ?_))
   refine aX (σ:={s:Nat // 0<s∧s≤100000}) (fun s=>⟨[(6,int s.1),(0,.osl 0 1 0 n),(1,int n),(2,.fn (.func 205) [] [.ptr 1 0])],[(0,some ⟨3,aa ak (blk (aP h) s.1 l)⟩),(1,some ⟨131,h.flat⟩)],8000⟩) (fun s=>n-s.1) id ⟨20,by omega,by omega⟩ ?_ ?_
   ·simp only[go_sem,↓reduceIte,hF]
    exact⟨rfl,fun b g h=>by have:=hF2 b g h;omega⟩
   ·rintro⟨s,q1,q2⟩
    by_cases hs:s<n
    ·have w2:IntKind.i64.wrap (2*(s:Int))=((2*s:Nat):Int):=wE
     have w3:IntKind.i64.wrap ((s:Int)*2)=((2*s:Nat):Int):=wE
     refine' run (I (eq_true hs) (I w2 w3)) (l3 fun hq=> ?_)
     refine iD mixed (σ:={p:List Int×List Int // p.1++blk (aP h) (2*s) p.2=blk (aP h) (2*s) l∧p.1.length+p.2.length=n∧(∀x,x∈p.1→placeOf h x)∧∀x,x∈p.2→placeOf h x})
      (fun p=>⟨[(7,int p.1.1.length),(8,int (p.1.1.length+2*s:Nat)),(6,int s),(0,.osl 0 1 0 n),(1,int n),(2,.fn (.func 205) [] [.ptr 1 0])],[(0,some ⟨3,aa ak (p.1.1++blk (aP h) s p.1.2)⟩),(1,some ⟨131,h.flat⟩)],16000⟩) (fun p=>p.1.2.length) id ⟨([],l),rfl,by simpa using hn,by simp,hP⟩ (by rw[hN];kernel_rfl) ?_ ?_
     ·have hz:((0+2*s:Nat):Int)=((2*s:Nat):Int):=byOmega
      simp only[go_sem,↓reduceIte,hF,hz]
      exact⟨rfl,fun b g h=>by have:=hF2 b g h;omega⟩
     ·rintro⟨⟨D,R⟩,g1,g2,g3,g4⟩
      simp only at g1 g2 g3 g4
      by_cases hR:2*s≤R.length
      ·obtain⟨A,B,R',he,hA,hB⟩:∃A B R',R=A++(B++R')∧A.length=s∧B.length=s:=⟨R.take s,(R.drop s).take s,(R.drop s).drop s,by rw[List.take_append_drop,List.take_append_drop],by simp;omega,by simp;omega⟩
       have c1:decide (((D.length+2*s:Nat):Int)≤(n:Int))=true:=by simp;omega
       have w4:IntKind.i64.wrap (((D.length+2*s:Nat):Int)+((2*s:Nat):Int))=((D.length+2*s+2*s:Nat):Int):=wE
       have w5:IntKind.i64.wrap (((D.length:Nat):Int)+s)=((D.length+s:Nat):Int):=wE
       have lR:R.length=s+(s+R'.length):=by rw[he,List.length_append,List.length_append,hA,hB]
       have eb:blk (aP h) s R=aG (aP h) A++(aG (aP h) B++blk (aP h) s R'):=by rw[he,nu hA q1,nu hB q1]
       have lb:(D++blk (aP h) s R).length=n:=by rw[List.length_append,oI];omega
       have c:=J8 h _ D (aG (aP h) A) (aG (aP h) B) (blk (aP h) s R') (Nat.le_refl _) (by rw[←eb];omega) (by rw[bZ];omega) (by rw[bZ];omega) (fun x hx=>g4 x (by rw[he];simp[fO.1 hx])) (fun x hx=>g4 x (by rw[he];simp[fO.1 hx])) (jR (kK h) _) (jR (kK h) _)
       unfold nz at c
       rw[←eb,lb,bZ,bZ,hA,hB,show D.length+s+s=D.length+2*s by omega,xR (kK h)] at c
       have hnz3:=fF (l:=D++blk (aP h) s R) byOmega
       refine' run (I c1 (I w2 (I w4 w5))) (lv (fun hq=>o4 fun K hK=> ?_) tt)
       (refine aB [0,1] (c) ?_)
       (revert K;refine bK ?_;refine' run (I c1 (I w2 (I w4 w5))) (l1 ?_))
       refine⟨⟨(D++aG (aP h) (A++B),R'),?_,by simp only[List.length_append,bZ];omega,fun x hx=> ?_,fun x hx=>g4 x (by rw[he];simp[hx])⟩,id,?_,mS⟩
       ·rw[←g1,he,←List.append_assoc A,nu (by rw[List.length_append];omega) byOmega,List.append_assoc]
       ·rcases List.mem_append.1 hx with hx|hx
        ·exact g3 x hx
        ·rcases List.mem_append.1 (fO.1 hx) with hx|hx
         ·exact g4 x (by rw[he];simp[hx])
         ·exact g4 x (by rw[he];simp[hx])
       ·have e1:(D++aG (aP h) (A++B)).length=D.length+2*s:=by rw[List.length_append,bZ,List.length_append];omega
        simp only[go_sem,↓reduceIte,hF,e1,List.append_assoc]
        exact fun b g h=>by have:=hF2 b g h;omega
      ·have c1:decide (((D.length+2*s:Nat):Int)≤(n:Int))=false:=by simp;omega
       have w5:IntKind.i64.wrap (((D.length:Nat):Int)+s)=((D.length+s:Nat):Int):=wE
       have hnz3:=fF (l:=D++blk (aP h) s R) (by rw[List.length_append,oI];omega)
       by_cases hm:s<R.length
       ·have c2:decide (((D.length+s:Nat):Int)<(n:Int))=true:=by simp;omega
        obtain⟨A,B,he,hA⟩:∃A B,R=A++B∧A.length=s:=⟨R.take s,R.drop s,by simp,by simp;omega⟩
        have lR:R.length=s+B.length:=by rw[he,List.length_append,hA]
        have eb:blk (aP h) s R=aG (aP h) A++(aG (aP h) B++[]):=by rw[he,nu hA q1,jS (l:=B) byOmega,List.append_nil]
        have lb:(D++blk (aP h) s R).length=n:=by rw[List.length_append,oI];omega
        have c:=J8 h _ D (aG (aP h) A) (aG (aP h) B) [] (Nat.le_refl _) (by rw[←eb];omega) (by rw[bZ];omega) (by rw[bZ];omega) (fun x hx=>g4 x (by rw[he];simp[fO.1 hx])) (fun x hx=>g4 x (by rw[he];simp[fO.1 hx])) (jR (kK h) _) (jR (kK h) _)
        unfold nz at c
        rw[←eb,lb,bZ,bZ,hA,show D.length+s+B.length=n by omega,xR (kK h),List.append_nil,←he,←jS (s:=2*s) (by omega:R.length≤2*s),g1] at c
        refine' run (I c1 (I c2 (I w5 w3))) (lv (fun hq=>fun hq=>o4 fun K hK=> ?_) tt)
        (refine aB [0,1] (c) ?_)
        (revert K;refine bK ?_;refine' run (I c1 (I c2 (I w5 w3))) (l1 ?_))
        refine⟨⟨2*s,by omega,by omega⟩,id,?_,mS⟩
        simp only[go_sem,↓reduceIte,hF]
        exact fun b g h=>by have:=hF2 b g h;omega
       ·have c2:decide (((D.length+s:Nat):Int)<(n:Int))=false:=by simp;omega
        rw[jS (s:=2*s) (by omega:R.length≤2*s),←jS (s:=s) (by omega:R.length≤s)] at g1
        rw[g1]
        refine' run (I c1 (I c2 (I w5 w3))) (lv (fun hq=>fun hq=>lf ?_) tt)
        refine⟨⟨2*s,by omega,by omega⟩,id,?_,mS⟩
        simp only[go_sem,↓reduceIte,hF]
        exact fun b g h=>by have:=hF2 b g h;omega
    ·have c3:decide ((s:Int)<(n:Int))=false:=by simp;omega
     have hb:blk (aP h) s l=aG (aP h) l:=jS byOmega
     exact run (I c3 hb) tt
theorem Ue (h:History) (l:List Int) (h0:0<l.length) (hl:l.length≤50000) (hP:∀x,x∈l→placeOf h x):aC Tryz.prog 204 [(0,⟨3,aa ak l⟩),(1,⟨131,h.flat⟩)] [.osl 0 1 0 l.length,.fn (.func 205) [] [.ptr 1 0]] (.tup []) [(0,some ⟨3,aa ak (aG (aP h) l)⟩)]:=by
 have hne2:=fF h0
 refine aW 2 Tryz.func204 (fun cx hN hR hF hL=> ?_) (by simp[go_sem,hne2,p8])
 refine' run tt (l4 fun K hK=> ?_)
 (refine aB [0,1] (Ud h l h0 hl hP) ?_)
 (revert K;refine bK ?_;exact run tt tt)
section
attribute [local go_sem] Option.toList_some Option.toList_none
def gN (a n:Nat):List Int:=(List.range' a n).map fun i:Nat=>(i:Int)
theorem uO (a n:Nat):(gN a n).length=n:=by simp[gN]
theorem Uf (a n:Nat):gN a (n+1)=gN a n++[((a+n:Nat):Int)]:=by
 simp[gN,List.range'_concat]
theorem uP {a n:Nat} {x:Int} (h:x∈gN a n):(a:Int)≤x∧x<(a+n:Nat):=by
 simp[gN] at h
 obtain⟨i,hi,rfl⟩:=h
 omega
def iR (h:History):List Int:=aG (aP h) (gN 0 h.changes.length)
theorem xS (h:History):(iR h).length=h.changes.length:=by rw[iR,bZ,uO]
attribute [local go_sem] Int.reduceLT in
theorem Ug (h:History):aC Tryz.prog 243 [(1,⟨131,h.flat⟩)] [.v (.slice none 0 0),int 0,int 0,.fn (.func 205) [] [.ptr 1 0]] (.tup []) []:=by
 have k1:IntKind.i64.wrap (0+1)=1:=rfl
 refine aW 2 Tryz.func243 (fun cx hN hR hF hL=> ?_)
 refine' run k1 (l1 ?_)
 refine bU 1 ?_
 exact run k1 tt
attribute [local go_sem] Int.reduceLE Int.reduceLT in
theorem Uh (h:History):aC Tryz.prog 231 [(1,⟨131,h.flat⟩)] [.v (.slice none 0 0),int 0,.fn (.func 205) [] [.ptr 1 0]] (.tup []) []:=by
 refine aW 2 Tryz.func231 (fun cx hN hR hF hL=> ?_)
 refine' run tt (l1 ?_)
 refine bU 1 ?_
 refine' run tt (lv (fun hq=>o4 fun K hK=> ?_) tt)
 (refine aB [0,1] (Ug h) ?_)
 (revert K;refine bK ?_;refine' run tt (l1 ?_))
 refine bU 1 ?_
 exact run tt tt
theorem Ui (h:History):aC Tryz.prog 204 [(1,⟨131,h.flat⟩)] [.v (.slice none 0 0),.fn (.func 205) [] [.ptr 1 0]] (.tup []) []:=by
 have hz:((0:Nat):Int)=0:=rfl
 refine aW 2 Tryz.func204 (fun cx hN hR hF hL=> ?_)
 refine' run hz (l4 fun K hK=> ?_)
 (refine aB [0,1] (Uh h) ?_)
 (revert K;refine bK ?_;exact run tt tt)
attribute [local go_sem] Int.reduceLT in
theorem J9 (h:History) (hl:h.changes.length≤50000):Fun Tryz.prog 174 [.agg h.flat] (ints (iR h)):=by
 by_cases h0:h.changes.length=0
 ·have ho:iR h=[]:=by rw[iR,h0];simp[gN,aG,ig]
  have hz:((0:Nat):Int)=0:=rfl
  refine af Tryz.func174 fun cx hN hR hF hL=> ?_
  refine' run (I h0 hz) (l1 ?_)
  refine bU 1 ?_
  refine' run (I h0 hz) (lv (fun hq=>o4 fun K hK=> ?_) tt)
  (refine aB [9024,0] (Ui h) ?_)
  (revert K;refine bK ?_;exact run ho tt)
 ·refine af Tryz.func174 fun cx hN hR hF hL=> ?_
  refine' run tt (l1 ?_)
  refine rH 3 4000 1 3 rfl (Nat.le_of_ble_eq_true rfl) ?_
  refine aX (σ:={i:Nat // i≤h.changes.length}) (fun s=>⟨[(8,int s.1),(7,int h.changes.length),(3,.osl 4000 1 0 s.1),(1,.ptr 0 0)],[(4000,some ⟨3,aa ak (gN 0 s.1)⟩),(0,some ⟨131,h.flat⟩)],4001⟩) (fun s=>h.changes.length-s.1) id ⟨0,by omega⟩ ?_ ?_
  ·have hs:aa ak (gN 0 0)=[]:=rfl
   simp only[go_sem,↓reduceIte,hF,hs]
   rfl
  ·rintro⟨i,h1⟩
   by_cases hi:i<h.changes.length
   ·have e2:=wS i
    have hln:(aa ak (gN 0 i)).length=i:=by rw[cz,uO]
    have hsn:aa ak (gN 0 i)++[int i]=aa ak (gN 0 (i+1)):=by rw[Uf,uJ,uJ];simp
    refine' run (I e2 (I hln hsn)) (lv (fun hq=>lf ?_) (lv (fun hq=>o4 fun K hK=> ?_) tt))
    ·refine⟨⟨i+1,by omega⟩,eG 4000 6025,?_,mS⟩
     simp only[go_sem,↓reduceIte,hF]
    all_goals(simp[maxLen];try omega)
   ·have he:i=h.changes.length:=byOmega
    subst he
    have hnz:=fF (l:=gN 0 h.changes.length) (by rw[uO];omega)
    have c:=Ue h (gN 0 h.changes.length) (by rw[uO];omega) (by rw[uO];exact hl) (fun x hx=>by have:=uP hx;exact⟨by omega,by omega⟩)
    rw[uO] at c
    refine' run tt (lv (fun hq=>o4 fun K hK=> ?_) tt)
    (refine aB [4000,0] (c) ?_)
    (revert K;refine bK ?_;refine' run tt (l1 ?_))
    exact⟨⟨(xS h).symm,bS (F:=ak) (fun _=>rfl) _⟩,dR (F:=ak) (fun _=>rfl) (fun _=>by simp[ak]) (iR h) (xS h).symm⟩
theorem Ka {h:History} {x:Int} (hx:placeOf h x):∃(k:Nat) (c:Change),x=k∧h.changes[k]? =some c∧ed h x=c.day:=by
 obtain⟨k,rfl⟩:∃k:Nat,x=k:=⟨x.toNat,by have:=hx.1;omega⟩
 have hk:k<h.changes.length:=by have:=hx.2;omega
 have e:h.changes[k]? =some h.changes[k]:=List.getElem?_eq_getElem hk
 exact⟨k,_,rfl,e,by simp[ed,e]⟩
end
section
attribute [local go_sem] Option.toList_some Option.toList_none
def nC (h:History) (Ix:List Int):List Change:=Ix.filterMap fun i=>h.changes[i.toNat]?
theorem Uj {h:History} {Ix:List Int} {i:Nat} (hi:i<Ix.length) {c:Change} (hc:h.changes[(Ix[i]).toNat]? =some c):nC h (Ix.drop i)=c::nC h (Ix.drop (i+1)):=by
 rw[nC,List.drop_eq_getElem_cons hi,List.filterMap_cons,hc];rfl
def Eu (h:History):Sl:=⟨h.terms.from_,0,rT h.terms,0⟩
attribute [local go_sem] Eu rT
theorem AX {O:List Sl} {a:Int} {st:St}:mX O a st a=O:=by rw[mX,if_pos rfl]
theorem Uk (h:History) (Ix:List Int) (ko:Fun Tryz.prog 174 [.agg h.flat] (ints Ix)) (hI:∀x,x∈Ix→0≤x∧x.toNat<h.changes.length) (hIl:Ix.length≤50000) (hc:h.terms.covers.length≤100000) (hcc:∀c,c∈h.changes→c.covers.length≤100000) (R:List Sl) (hR0:mY [] h.terms.from_ (rT h.terms) (nC h Ix) h.terms.to_=R) (hR1:R≠ []):
 aC Tryz.prog 147 [] [.agg h.flat] (.osl 0 9 0 R.length) [(0,some ⟨200,aa Sl.flat R⟩)]:=by
 refine fu 0 Tryz.func147 rfl (Nat.le_of_ble_eq_true rfl) (by simp[go_sem]) fun cx hN hR hF hL=> ?_;apply fw;(case hA=>(simp only[go_sem,↓reduceIte];rfl));(case hB=>(simp only[go_sem,↓reduceIte];rfl))
 replace hF:cx.F=fun _=>none:=by
  funext b
  cases hq:cx.F b with
  |none=>rfl
  |some g=>exact absurd (hF b g hq) (by simp[inl])
 refine iM (aL ?_)
 refine' aj tt ko (l2 ?_ (l4 fun K hK=> ?_))
 ·refine Sg [2080] [(28,int 0),(27,int Ix.length),(26,ints Ix),(6,.fn (.func 184) [] [.ptr 2096 0,.ptr 3000 0]),(5,.ptr 3000 0),(4,.ptr 2096 0),(3,.ptr 1024 0),(1,.ptr 0 0)]
   [(3000,some ⟨196,[.v (.slice none 0 0)]⟩),(2096,some ⟨200,(Eu h).flat⟩),(1024,some ⟨53,[int h.terms.from_,int h.terms.to_]⟩),(0,some ⟨131,h.flat⟩)] rfl ?_ ?_ ?_
  ·simp only[go_sem,↓reduceIte]
  ·simp only[go_sem,↓reduceIte]
   exact⟨bS (F:=Cover.flat) JL _,dR Cover.len Cover.data h.terms.covers rfl⟩
  refine iD mixed (σ:={s:Nat×List Sl×Sl // s.1≤Ix.length∧s.2.1.length≤s.1∧s.2.2.to_=0∧s.2.2.yearly=0∧mY s.2.1 s.2.2.from_ s.2.2.st (nC h (Ix.drop s.1)) h.terms.to_=R})
   (fun s=>⟨[(28,int s.1.1),(27,int Ix.length),(26,ints Ix),(6,.fn (.func 184) [] [.ptr 2096 0,.ptr 3000 0]),(5,.ptr 3000 0),(4,.ptr 2096 0),(3,.ptr 1024 0),(1,.ptr 0 0)],
     [(3000,some ⟨196,[kH 6001 9 s.1.2.1]⟩),(6001,kI 200 Sl.flat s.1.2.1),(2096,some ⟨200,s.1.2.2.flat⟩),(1024,some ⟨53,[int h.terms.from_,int h.terms.to_]⟩),(0,some ⟨131,h.flat⟩)],7000⟩) (fun s=>Ix.length-s.1.1) id ⟨(0,[],Eu h),Nat.zero_le _,Nat.le_refl _,rfl,rfl,hR0⟩ (by rw[hN];kernel_rfl) ?_ ?_
  ·have o1:=uF (b:=6001) (k:=9) (l:=([]:List Sl)) rfl
   have o3:=uH (t:=200) (F:=Sl.flat) (l:=([]:List Sl)) rfl
   simp only[o1,o3]
   simp only[go_sem,↓reduceIte,hF]
   all_goals rfl
  ·rintro⟨⟨i,O,s⟩,h1,h2,h3,h4,h5⟩
   simp only at h1 h2 h3 h4 h5 ⊢
   by_cases hi:i<Ix.length
   ·have hx:=hI Ix[i] (List.getElem_mem hi)
    have e1:(Ix.map ak)[i]? =some [int Ix[i]]:=by rw[List.getElem?_map,List.getElem?_eq_getElem hi];rfl
    have e2:=wS i
    have hcx:h.changes[(Ix[i]).toNat]? =some h.changes[(Ix[i]).toNat]:=List.getElem?_eq_getElem hx.2
    have hcv:=hcc _ (List.getElem_mem hx.2)
    rw[Uj hi hcx,mY] at h5
    generalize h.changes[(Ix[i]).toNat]=c at *
    have e3:(h.changes.map Change.flat)[(Ix[i]).toNat]? =some c.flat:=by rw[List.getElem?_map,hcx];rfl
    generalize Ix[i]=x at *
    have b0:((i:Int)<(Ix.length:Int))=True:=eT
    have b1:(0≤x)=True:=eq_true hx.1
    have b2:(x<(h.changes.length:Int))=True:=eT
    rcases Eg O with rfl|⟨m,q,rfl⟩
    ·have o1:=uF (b:=6001) (k:=9) (l:=([]:List Sl)) rfl
     have o3:=uH (t:=200) (F:=Sl.flat) (l:=([]:List Sl)) rfl
     simp only[o1,o3]
     by_cases hd:s.from_=c.day
     ·have kE:=JN s c.day hd
      rw[hd,AX] at h5
      refine' run (I b0 (I (decide_eq_true (of_eq_true b0)) (I e1 (I e2 (I e3 (I b1 b2)))))) (lv (fun hq=>o4 fun K hK=> ?_) tt)
      (refine aB [2096,3000] (kE) ?_)
      (revert K;refine bK ?_;refine' run (I b0 (I (decide_eq_true (of_eq_true b0)) (I e1 (I e2 (I e3 (I b1 b2)))))) (l4 fun K hK=> ?_))
      (refine aB [2096] (xO (ic s c.day) c hcv) ?_)
      (revert K;refine bK ?_;refine' run (I b0 (I (decide_eq_true (of_eq_true b0)) (I e1 (I e2 (I e3 (I b1 b2)))))) (l1 ?_))
      refine⟨⟨(i+1,[],iP (ic s c.day) c),hi,Nat.zero_le _,h3,h4,h5⟩,id,?_,mS⟩
      simp only[o1,o3]
      simp only[go_sem,↓reduceIte,hF]
     ·have kE:=JO s c.day hd
      have hs:bN s c.day=⟨s.from_,c.day,s.st,0⟩:=by rw[bN,h4]
      rw[Ee hd,←hs] at h5
      refine' run (I b0 (I (decide_eq_true (of_eq_true b0)) (I e1 (I e2 (I e3 (I b1 b2)))))) (lv (fun hq=>o4 fun K hK=> ?_) tt)
      (refine aB [2096,3000,9056] (kE) ?_)
      (revert K;refine bK ?_;refine' run (I b0 (I (decide_eq_true (of_eq_true b0)) (I e1 (I e2 (I e3 (I b1 b2)))))) (l4 fun K hK=> ?_))
      (refine aB [2096] (xO (ic s c.day) c hcv) ?_)
      (revert K;refine bK ?_;refine' run (I b0 (I (decide_eq_true (of_eq_true b0)) (I e1 (I e2 (I e3 (I b1 b2)))))) (l1 ?_))
      have o2:kH 6001 9 [bN s c.day]= .osl 6001 9 0 1:=rfl
      have o4:kI 200 Sl.flat [bN s c.day]=some ⟨200,aa Sl.flat [bN s c.day]⟩:=rfl
      refine⟨⟨(i+1,[bN s c.day],iP (ic s c.day) c),hi,by simp,h3,h4,h5⟩,eG 6001 9056,?_,mS⟩
      simp only[o2,o4]
      simp only[go_sem,↓reduceIte,hF]
    ·have o1:kH 6001 9 (m++[q])= .osl 6001 9 0 (m.length+1):=uG m q
     have o3:kI 200 Sl.flat (m++[q])=some ⟨200,aa Sl.flat (m++[q])⟩:=uI ai
     have hml:m.length+1≤i:=by simpa using h2
     have hm:m.length≤100000:=byOmega
     simp only[o1,o3]
     by_cases hd:s.from_=c.day
     ·have kE:=JP s q m c.day hm hd
      rw[hd,AX] at h5
      refine' run (I b0 (I (decide_eq_true (of_eq_true b0)) (I e1 (I e2 (I e3 (I b1 b2)))))) (lv (fun hq=>o4 fun K hK=> ?_) tt)
      (refine aB [2096,3000,6001] (kE) ?_)
      (revert K;refine bK ?_;refine' run (I b0 (I (decide_eq_true (of_eq_true b0)) (I e1 (I e2 (I e3 (I b1 b2)))))) (l4 fun K hK=> ?_))
      (refine aB [2096] (xO (ic s c.day) c hcv) ?_)
      (revert K;refine bK ?_;refine' run (I b0 (I (decide_eq_true (of_eq_true b0)) (I e1 (I e2 (I e3 (I b1 b2)))))) (l1 ?_))
      refine⟨⟨(i+1,m++[q],iP (ic s c.day) c),hi,by simp;omega,h3,h4,h5⟩,id,?_,mS⟩
      simp only[o1,o3]
      simp only[go_sem,↓reduceIte,hF]
     ·rw[Ef hd] at h5
      by_cases kF:q.st=s.st
      ·have kE:=JQ s q m c.day hm hd kF
       rw[if_pos kF] at h5
       refine' run (I b0 (I (decide_eq_true (of_eq_true b0)) (I e1 (I e2 (I e3 (I b1 b2)))))) (lv (fun hq=>o4 fun K hK=> ?_) tt)
       (refine aB [2096,3000,6001] (kE) ?_)
       (revert K;refine bK ?_;refine' run (I b0 (I (decide_eq_true (of_eq_true b0)) (I e1 (I e2 (I e3 (I b1 b2)))))) (l4 fun K hK=> ?_))
       (refine aB [2096] (xO (ic s c.day) c hcv) ?_)
       (revert K;refine bK ?_;refine' run (I b0 (I (decide_eq_true (of_eq_true b0)) (I e1 (I e2 (I e3 (I b1 b2)))))) (l1 ?_))
       have o2:kH 6001 9 (m++[bN q c.day])= .osl 6001 9 0 (m.length+1):=uG m _
       have o4:kI 200 Sl.flat (m++[bN q c.day])=some ⟨200,aa Sl.flat (m++[bN q c.day])⟩:=uI ai
       refine⟨⟨(i+1,m++[bN q c.day],iP (ic s c.day) c),hi,by simp;omega,h3,h4,h5⟩,id,?_,mS⟩
       simp only[o2,o4]
       simp only[go_sem,↓reduceIte,hF]
      ·have kE:=JR s q m c.day hm hd kF
       have hs:bN s c.day=⟨s.from_,c.day,s.st,0⟩:=by rw[bN,h4]
       rw[if_neg kF,←hs] at h5
       refine' run (I b0 (I (decide_eq_true (of_eq_true b0)) (I e1 (I e2 (I e3 (I b1 b2)))))) (lv (fun hq=>o4 fun K hK=> ?_) tt)
       (refine aB [2096,3000,6001,9056] (kE) ?_)
       (revert K;refine bK ?_;refine' run (I b0 (I (decide_eq_true (of_eq_true b0)) (I e1 (I e2 (I e3 (I b1 b2)))))) (l4 fun K hK=> ?_))
       (refine aB [2096] (xO (ic s c.day) c hcv) ?_)
       (revert K;refine bK ?_;refine' run (I b0 (I (decide_eq_true (of_eq_true b0)) (I e1 (I e2 (I e3 (I b1 b2)))))) (l1 ?_))
       have o2:kH 6001 9 (m++[q]++[bN s c.day])= .osl 6001 9 0 (m.length+1+1):=by rw[uG,List.length_append];rfl
       have o4:kI 200 Sl.flat (m++[q]++[bN s c.day])=some ⟨200,aa Sl.flat (m++[q]++[bN s c.day])⟩:=uI ai
       refine⟨⟨(i+1,m++[q]++[bN s c.day],iP (ic s c.day) c),hi,by simp;omega,h3,h4,h5⟩,eG 6001 9056,?_,mS⟩
       simp only[o2,o4]
       simp only[go_sem,↓reduceIte,hF]
   ·obtain rfl:i=Ix.length:=byOmega
    rw[List.drop_length,show nC h []=[] from rfl,mY] at h5
    have b9:((Ix.length:Int)<(Ix.length:Int))=False:=eF
    rcases Eg O with rfl|⟨m,q,rfl⟩
    ·have o1:=uF (b:=6001) (k:=9) (l:=([]:List Sl)) rfl
     have o3:=uH (t:=200) (F:=Sl.flat) (l:=([]:List Sl)) rfl
     simp only[o1,o3]
     by_cases hd:s.from_=h.terms.to_
     ·have kE:=JN s h.terms.to_ hd
      rw[hd,AX] at h5
      exact absurd h5.symm hR1
     ·have kE:=JO s h.terms.to_ hd
      have hs:bN s h.terms.to_=⟨s.from_,h.terms.to_,s.st,0⟩:=by rw[bN,h4]
      rw[Ee hd,←hs] at h5
      generalize bN s h.terms.to_=u at *
      subst h5
      refine' run (I b9 (decide_eq_false (of_eq_false b9))) (lv (fun hq=>o4 fun K hK=> ?_) tt)
      (refine aB [2096,3000,8024] (kE) ?_)
      (revert K;refine bK ?_;refine' run (I b9 (decide_eq_false (of_eq_false b9))) (l1 ?_))
      refine⟨eG 0 8024,⟨[(2,.osl 0 9 0 1)],[(0,some ⟨200,aa Sl.flat ([u])⟩)],1⟩,?_,?_⟩
      ·simp only[go_sem,↓reduceIte,hF]
       all_goals rfl
      ·exact run tt tt
    ·have o1:kH 6001 9 (m++[q])= .osl 6001 9 0 (m.length+1):=uG m q
     have o3:kI 200 Sl.flat (m++[q])=some ⟨200,aa Sl.flat (m++[q])⟩:=uI ai
     have hml:m.length+1≤Ix.length:=by simpa using h2
     have hm:m.length≤100000:=byOmega
     simp only[o1,o3]
     by_cases hd:s.from_=h.terms.to_
     ·have kE:=JP s q m h.terms.to_ hm hd
      rw[hd,AX] at h5
      subst h5
      refine' run (I b9 (decide_eq_false (of_eq_false b9))) (lv (fun hq=>o4 fun K hK=> ?_) tt)
      (refine aB [2096,3000,6001] (kE) ?_)
      (revert K;refine bK ?_;refine' run (I b9 (decide_eq_false (of_eq_false b9))) (l1 ?_))
      refine⟨eG 0 6001,⟨[(2,.osl 0 9 0 (m.length+1))],[(0,some ⟨200,aa Sl.flat (m++[q])⟩)],1⟩,?_,?_⟩
      ·simp only[go_sem,↓reduceIte,hF]
       all_goals rfl
      ·exact run tt tt
     ·rw[Ef hd] at h5
      by_cases kF:q.st=s.st
      ·have kE:=JQ s q m h.terms.to_ hm hd kF
       rw[if_pos kF] at h5
       generalize bN q h.terms.to_=u at *
       subst h5
       refine' run (I b9 (decide_eq_false (of_eq_false b9))) (lv (fun hq=>o4 fun K hK=> ?_) tt)
       (refine aB [2096,3000,6001] (kE) ?_)
       (revert K;refine bK ?_;refine' run (I b9 (decide_eq_false (of_eq_false b9))) (l1 ?_))
       refine⟨eG 0 6001,⟨[(2,.osl 0 9 0 (m.length+1))],[(0,some ⟨200,aa Sl.flat (m++[u])⟩)],1⟩,?_,?_⟩
       ·simp only[go_sem,↓reduceIte,hF]
        all_goals rfl
       ·exact run tt tt
      ·have kE:=JR s q m h.terms.to_ hm hd kF
       have hs:bN s h.terms.to_=⟨s.from_,h.terms.to_,s.st,0⟩:=by rw[bN,h4]
       rw[if_neg kF,←hs] at h5
       generalize bN s h.terms.to_=u at *
       subst h5
       refine' run (I b9 (decide_eq_false (of_eq_false b9))) (lv (fun hq=>o4 fun K hK=> ?_) tt)
       (refine aB [2096,3000,6001,8024] (kE) ?_)
       (revert K;refine bK ?_;refine' run (I b9 (decide_eq_false (of_eq_false b9))) (l1 ?_))
       refine⟨eG 0 8024,⟨[(2,.osl 0 9 0 (m.length+1+1))],[(0,some ⟨200,aa Sl.flat (m++[q]++[u])⟩)],1⟩,?_,?_⟩
       ·simp only[go_sem,↓reduceIte,hF]
        all_goals rfl
       ·exact run tt tt
 ·simp[maxLen];omega
end
section
attribute [local go_sem] Option.toList_some Option.toList_none
def lastB (b:Int) (l:List Change):Int:=match l.getLast? with|some c=>c.booked|none=>b
def ik (h:History) (c:Change):Int:=if(!c.right|| !fM h.terms.from_ h.terms.to_ c.day)=true then 1 else if c.booked<lastB h.booked h.changes then 4 else if 2000≤h.changes.length then 2 else 0
def iT (h:History) (c:Change):History:=if ik h c=0 then⟨h.id,h.booked,h.terms,h.changes++[c]⟩ else bg
theorem Ul {α β:Type} (F:α→β) (l:List α):(l.map F).take l.length=l.map F:=by
 rw[←List.length_map (f:=F),List.take_length]
theorem Kb {t:TypeId} {R:AV→AV→Prop} (l:List Change) (c:Change) {n:Nat} (hn:n=l.length+1):aH (some ⟨t,(l.map Change.flat).flatten++c.flat⟩) R 9 0 n ((l++[c]).map Change.flat):=by
 have:(l.map Change.flat).flatten++c.flat=((l++[c]).map Change.flat).flatten:=by simp
 rw[this]
 exact dR Change.len Change.data _ (by simp[hn])
theorem Kc {h:History} {c:Change} (hq:c.right=false∨fM h.terms.from_ h.terms.to_ c.day=false):ik h c=1:=by
 unfold ik
 rcases hq with e|e<;>simp[e]
theorem Ke {h:History} {c:Change} (h1:c.right=true∧fM h.terms.from_ h.terms.to_ c.day=true) (hq:c.booked<lastB h.booked h.changes):ik h c=4:=by
 unfold ik
 simp[h1.1,h1.2,hq]
theorem Um {h:History} {c:Change} (h1:c.right=true∧fM h.terms.from_ h.terms.to_ c.day=true) (h2:lastB h.booked h.changes≤c.booked) (hq:2000≤(h.changes.length:Int)):ik h c=2:=by
 unfold ik
 have:2000≤h.changes.length:=byOmega
 simp[h1.1,h1.2,this]
 omega
theorem Kg {h:History} {c:Change} (h1:c.right=true∧fM h.terms.from_ h.terms.to_ c.day=true) (h2:lastB h.booked h.changes≤c.booked) (hq:(h.changes.length:Int)<2000):ik h c=0:=by
 unfold ik
 simp[h1.1,h1.2]
 omega
theorem xU {h:History} {c:Change} {e:Int} (he:ik h c=e) (hne:e≠0):iT h c=bg:=by
 unfold iT
 rw[if_neg (by rw[he];exact hne)]
theorem Kh {h:History} {c:Change} (he:ik h c=0):iT h c=⟨h.id,h.booked,h.terms,h.changes++[c]⟩:=by
 unfold iT
 rw[if_pos he]
theorem Un (h:History) (c:Change) (hc:c.covers.length≤100000) (ht:h.terms.covers.length≤100000):Fun Tryz.prog 290 [.agg h.flat,.agg c.flat] (.tup [.agg (iT h c).flat,int (ik h c)]):=by
 have htm:=Ul Change.flat h.changes
 have mx:2000≤maxLen:=by simp[maxLen]
 rcases List.eq_nil_or_concat h.changes with hn|⟨l',x,hn⟩
 ·have hlb:lastB h.booked h.changes=h.booked:=by rw[hn];rfl
  refine af Tryz.func290 fun cx hN hR hF hL=> ?_
  (repeat' first|focus ((try(revert K;refine bK ?_));refine' aj (I htm hn) (I AP rV) ?_;(repeat' first|exact tt|apply lv|(apply oK;intro K hK)|intro hq);all_goals apply lf)|refine mQ zk (xL _ _ hc) ?_|refine mQ Dj (Eo _ ht) ?_)
  ·have he:=Kc hq
   simp[xU he,he,bg,fG]
  ·rename_i h1
   have he:=Ke h1 (by rw[hlb];exact hq)
   simp[xU he,he,bg,fG]
  ·rename_i h2 h1
   have he:=Kg h2 (by rw[hlb];exact h1) (by rw[hn];exact hq)
   simp only[Kh he,he,hn,List.nil_append,and_self,true_and,and_true]
   exact⟨⟨rfl,bS Change.len _⟩,Kb [] c rfl⟩
 ·have hlb:lastB h.booked h.changes=x.booked:=by rw[hn];simp[lastB]
  have hlen:h.changes.length=l'.length+1:=by rw[hn];simp
  have e1:h.changes[l'.length]? =some x:=by rw[hn];simp
  refine af Tryz.func290 fun cx hN hR hF hL=> ?_
  have hl:h.changes.length≤9223372036854775807:=by
   have:=hL
   simp[History.flat,maxLen] at this
   omega
  have ew:IntKind.i64.wrap (((l'.length+1:Nat):Int)-1)=(l'.length:Int):=wE
  have htm2:List.take (l'.length+1) (h.changes.map Change.flat)=h.changes.map Change.flat:=by rw[←hlen];exact htm
  (repeat' first|focus ((try(revert K;refine bK ?_));refine' aj (I htm2 (I hlen (I e1 ew))) (I AP rV) ?_;(repeat' first|exact tt|apply lv|(apply oK;intro K hK)|intro hq);all_goals apply lf)|refine mQ zk (xL _ _ hc) ?_|refine mQ Dj (Eo _ ht) ?_)
  ·have he:=Kc hq
   simp[xU he,he,bg,fG]
  ·rename_i h1
   have he:=Ke h1 (by rw[hlb];exact hq)
   simp[xU he,he,bg,fG]
  ·rename_i h2 h1
   have he:=Um h2 (by rw[hlb];exact h1) (by rw[hlen];exact hq)
   simp[xU he,he,bg,fG]
  ·rename_i h2 h1
   have he:=Kg h2 (by rw[hlb];exact h1) (by rw[hlen];exact hq)
   simp only[Kh he,he,and_self,true_and,and_true]
   exact⟨⟨by simp[hlen],bS Change.len _⟩,Kb h.changes c (by simp[hlen])⟩
end
section
attribute [local go_sem] Option.toList_some Option.toList_none
end
section
set_option maxRecDepth 100000
end
section
attribute [local go_sem] Option.toList_some Option.toList_none
end
section
attribute [local go_sem] Option.toList_some Option.toList_none
end
section
attribute [local go_sem] Option.toList_some Option.toList_none
end
section
attribute [local go_sem] Option.toList_some Option.toList_none
end
end Go.Proofs.YtlikpcpllahalaaGreat.V
