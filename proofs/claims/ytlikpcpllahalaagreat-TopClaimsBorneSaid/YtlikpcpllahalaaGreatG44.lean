/- Parts of the proof. -/
import Derived.Test.YtlikpcpllahalaaGreatG43
import Derived.Test.YtlikpcpllahalaaGreatG41
set_option maxHeartbeats 16000000
set_option linter.unusedSimpArgs false
set_option linter.unusedVariables false
namespace Go.Proofs.YtlikpcpllahalaaGreat.V
open Go.RowKit
set_option maxRecDepth 100000
theorem Zf (l:List Stp) (h0:0<l.length) (hl:l.length≤50000) (hP:∀x,x∈l→True):
 aC Tryz.prog 114 [(0,⟨172,aa aO l⟩)] [.osl 0 4 0 l.length,int l.length,.v (.func (.func 63) #[] #[])] (.tup []) [(0,some ⟨172,aa aO (aG (aK) l)⟩)]:=by
 have hne2:=gQ h0
 generalize hn:l.length=n at *
 refine aW 1 Tryz.func114 (fun cx hN hR hF hL=> ?_) (by simp[go_sem,hne2,qy])
 have hF2:∀b g,cx.F b=some g→b<2000:=fun b g h=>by
  have:=hF b g h
  simp[inl] at this
  omega
 refine' run tt (V.l1 ?_)
 refine iD mixed (σ:={p:List Stp×List Stp // p.1++blk (aK) 20 p.2=blk (aK) 20 l∧p.1.length+p.2.length=n∧(∀x,x∈p.1→True)∧∀x,x∈p.2→True})
  (fun s=>⟨[(7,int s.1.1.length),(8,int (s.1.1.length+20:Nat)),(6,int 20),(0,.osl 0 4 0 n),(1,int n),(2,.v (.func (.func 63) #[] #[]))],[(0,some ⟨172,aa aO (s.1.1++s.1.2)⟩)],4000⟩) (fun s=>s.1.2.length) id ⟨([],l),rfl,by simpa using hn,by simp,hP⟩ (by rw[hN];kernel_rfl) ?_ ?_
 ·have h20:((0+20:Nat):Int)=20:=rfl
  simp only[go_sem,↓reduceIte,hF,h20]
  exact⟨rfl,fun b g h=>by have:=hF2 b g h;omega⟩
 ·rintro⟨⟨D,R⟩,g1,g2,g3,g4⟩
  simp only at g1 g2 g3 g4
  by_cases hR:20≤R.length
  ·obtain⟨A,R',he,hA⟩:∃A R',R=A++R'∧A.length=20:=⟨R.take 20,R.drop 20,by simp,by simp;omega⟩
   have c1:decide (((D.length+20:Nat):Int)≤(n:Int))=true:=by simp;omega
   have w1:IntKind.i64.wrap (((D.length+20:Nat):Int)+20)=((D.length+20+20:Nat):Int):=wE
   have lR:R.length=20+R'.length:=by rw[he,List.length_append,hA]
   have hnz:=gQ (l:=D++R) (by rw[List.length_append];omega)
   have c:=Mv D A R' (by simp only[List.length_append];omega) (by simp only[List.length_append];omega) (fun x hx=>g4 x (by rw[he];simp[hx]))
   rw[←he,List.length_append,g2,hA] at c
   refine' run (I c1 w1) (lv (fun hq=>o4 fun K hK=> ?_) tt)
   (refine aB [0] (c) ?_)
   (revert K;refine bK ?_;refine' run (I c1 w1) (V.l1 ?_))
   refine⟨⟨(D++aG (aK) A,R'),by rw[←g1,he,nu hA byOmega];simp,by simp only[List.length_append,bZ];omega,fun x hx=> ?_,fun x hx=>g4 x (by rw[he];simp[hx])⟩,id,?_,mS⟩
   ·rcases List.mem_append.1 hx with hx|hx
    ·exact g3 x hx
    ·exact g4 x (by rw[he];simp[fO.1 hx])
   ·have e1:(D++aG (aK) A).length=D.length+20:=by rw[List.length_append,bZ,hA]
    simp only[go_sem,↓reduceIte,hF,e1,List.append_assoc]
    exact fun b g h=>by have:=hF2 b g h;omega
  ·have c1:decide (((D.length+20:Nat):Int)≤(n:Int))=false:=by simp;omega
   have hnz:=gQ (l:=D++R) (by rw[List.length_append];omega)
   have c:=Mv D R [] (by simp only[List.append_nil,List.length_append];omega) (by simp only[List.append_nil,List.length_append];omega) g4
   rw[List.append_nil,List.append_nil,List.length_append,g2,←jS (s:=20) (by omega:R.length≤20),g1] at c
   have hnz2:=gQ (l:=blk (aK) 20 l) (by rw[oI];omega)
   refine' run c1 (lv (fun hq=>o4 fun K hK=> ?_) tt)
   (refine aB [0] (c) ?_)
   (revert K;refine bK ?_;refine' run c1 (V.l1 ?_))
   refine aX (σ:={s:Nat // 0<s∧s≤100000}) (fun s=>⟨[(6,int s.1),(0,.osl 0 4 0 n),(1,int n),(2,.v (.func (.func 63) #[] #[]))],[(0,some ⟨172,aa aO (blk (aK) s.1 l)⟩)],8000⟩) (fun s=>n-s.1) id ⟨20,by omega,by omega⟩ ?_ ?_
   ·simp only[go_sem,↓reduceIte,hF]
    exact⟨rfl,fun b g h=>by have:=hF2 b g h;omega⟩
   ·rintro⟨s,q1,q2⟩
    by_cases hs:s<n
    ·have w2:IntKind.i64.wrap (2*(s:Int))=((2*s:Nat):Int):=wE
     have w3:IntKind.i64.wrap ((s:Int)*2)=((2*s:Nat):Int):=wE
     refine' run (I (eq_true hs) (I w2 w3)) (V.l3 fun hq=> ?_)
     refine iD mixed (σ:={p:List Stp×List Stp // p.1++blk (aK) (2*s) p.2=blk (aK) (2*s) l∧p.1.length+p.2.length=n∧(∀x,x∈p.1→True)∧∀x,x∈p.2→True})
      (fun p=>⟨[(7,int p.1.1.length),(8,int (p.1.1.length+2*s:Nat)),(6,int s),(0,.osl 0 4 0 n),(1,int n),(2,.v (.func (.func 63) #[] #[]))],[(0,some ⟨172,aa aO (p.1.1++blk (aK) s p.1.2)⟩)],16000⟩) (fun p=>p.1.2.length) id ⟨([],l),rfl,by simpa using hn,by simp,hP⟩ (by rw[hN];kernel_rfl) ?_ ?_
     ·have hz:((0+2*s:Nat):Int)=((2*s:Nat):Int):=byOmega
      simp only[go_sem,↓reduceIte,hF,hz]
      exact⟨rfl,fun b g h=>by have:=hF2 b g h;omega⟩
     ·rintro⟨⟨D,R⟩,g1,g2,g3,g4⟩
      simp only at g1 g2 g3 g4
      by_cases hR:2*s≤R.length
      ·obtain⟨A,B,R',he,hA,hB⟩:∃A B R',R=A++(B++R')∧A.length=s∧B.length=s:=⟨R.take s,(R.drop s).take s,(R.drop s).drop s,by rw[List.take_append_drop,List.take_append_drop],by simp;omega,by simp;omega⟩
       have c1:decide (((D.length+2*s:Nat):Int)≤(n:Int))=true:=by simp;omega
       have w4:IntKind.i64.wrap (((D.length+2*s:Nat):Int)+((2*s:Nat):Int))=((D.length+2*s+2*s:Nat):Int):=wE
       have w5:IntKind.i64.wrap (((D.length:Nat):Int)+s)=((D.length+s:Nat):Int):=wE
       have lR:R.length=s+(s+R'.length):=by rw[he,List.length_append,List.length_append,hA,hB]
       have eb:blk (aK) s R=aG (aK) A++(aG (aK) B++blk (aK) s R'):=by rw[he,nu hA q1,nu hB q1]
       have lb:(D++blk (aK) s R).length=n:=by rw[List.length_append,oI];omega
       have c:=Mw _ D (aG (aK) A) (aG (aK) B) (blk (aK) s R') (Nat.le_refl _) (by rw[←eb];omega) (by rw[bZ];omega) (by rw[bZ];omega) (fun x hx=>g4 x (by rw[he];simp[fO.1 hx])) (fun x hx=>g4 x (by rw[he];simp[fO.1 hx])) (jR (jo) _) (jR (jo) _)
       unfold nL at c
       rw[←eb,lb,bZ,bZ,hA,hB,show D.length+s+s=D.length+2*s by omega,xR (jo)] at c
       have hnz3:=gQ (l:=D++blk (aK) s R) byOmega
       refine' run (I c1 (I w2 (I w4 w5))) (lv (fun hq=>o4 fun K hK=> ?_) tt)
       (refine aB [0] (c) ?_)
       (revert K;refine bK ?_;refine' run (I c1 (I w2 (I w4 w5))) (V.l1 ?_))
       refine⟨⟨(D++aG (aK) (A++B),R'),?_,by simp only[List.length_append,bZ];omega,fun x hx=> ?_,fun x hx=>g4 x (by rw[he];simp[hx])⟩,id,?_,mS⟩
       ·rw[←g1,he,←List.append_assoc A,nu (by rw[List.length_append];omega) byOmega,List.append_assoc]
       ·rcases List.mem_append.1 hx with hx|hx
        ·exact g3 x hx
        ·rcases List.mem_append.1 (fO.1 hx) with hx|hx
         ·exact g4 x (by rw[he];simp[hx])
         ·exact g4 x (by rw[he];simp[hx])
       ·have e1:(D++aG (aK) (A++B)).length=D.length+2*s:=by rw[List.length_append,bZ,List.length_append];omega
        simp only[go_sem,↓reduceIte,hF,e1,List.append_assoc]
        exact fun b g h=>by have:=hF2 b g h;omega
      ·have c1:decide (((D.length+2*s:Nat):Int)≤(n:Int))=false:=by simp;omega
       have w5:IntKind.i64.wrap (((D.length:Nat):Int)+s)=((D.length+s:Nat):Int):=wE
       have hnz3:=gQ (l:=D++blk (aK) s R) (by rw[List.length_append,oI];omega)
       by_cases hm:s<R.length
       ·have c2:decide (((D.length+s:Nat):Int)<(n:Int))=true:=by simp;omega
        obtain⟨A,B,he,hA⟩:∃A B,R=A++B∧A.length=s:=⟨R.take s,R.drop s,by simp,by simp;omega⟩
        have lR:R.length=s+B.length:=by rw[he,List.length_append,hA]
        have eb:blk (aK) s R=aG (aK) A++(aG (aK) B++[]):=by rw[he,nu hA q1,jS (l:=B) byOmega,List.append_nil]
        have lb:(D++blk (aK) s R).length=n:=by rw[List.length_append,oI];omega
        have c:=Mw _ D (aG (aK) A) (aG (aK) B) [] (Nat.le_refl _) (by rw[←eb];omega) (by rw[bZ];omega) (by rw[bZ];omega) (fun x hx=>g4 x (by rw[he];simp[fO.1 hx])) (fun x hx=>g4 x (by rw[he];simp[fO.1 hx])) (jR (jo) _) (jR (jo) _)
        unfold nL at c
        rw[←eb,lb,bZ,bZ,hA,show D.length+s+B.length=n by omega,xR (jo),List.append_nil,←he,←jS (s:=2*s) (by omega:R.length≤2*s),g1] at c
        refine' run (I c1 (I c2 (I w5 w3))) (lv (fun hq=>fun hq=>o4 fun K hK=> ?_) tt)
        (refine aB [0] (c) ?_)
        (revert K;refine bK ?_;refine' run (I c1 (I c2 (I w5 w3))) (V.l1 ?_))
        refine⟨⟨2*s,by omega,by omega⟩,id,?_,mS⟩
        simp only[go_sem,↓reduceIte,hF]
        exact fun b g h=>by have:=hF2 b g h;omega
       ·have c2:decide (((D.length+s:Nat):Int)<(n:Int))=false:=by simp;omega
        rw[jS (s:=2*s) (by omega:R.length≤2*s),←jS (s:=s) (by omega:R.length≤s)] at g1
        rw[g1]
        refine' run (I c1 (I c2 (I w5 w3))) (lv (fun hq=>fun hq=>lf ?_) tt)
        refine⟨⟨2*s,by omega,by omega⟩,id,?_,mS⟩
        simp only[go_sem,↓reduceIte,hF]
        exact fun b g h=>by have:=hF2 b g h;omega
    ·have c3:decide ((s:Int)<(n:Int))=false:=by simp;omega
     have hb:blk (aK) s l=aG (aK) l:=jS byOmega
     exact run (I c3 hb) tt
theorem Zg (l:List Stp) (h0:0<l.length) (hl:l.length≤50000) (hP:∀x,x∈l→True):aC Tryz.prog 62 [(0,⟨172,aa aO l⟩)] [.osl 0 4 0 l.length,.v (.func (.func 63) #[] #[])] (.tup []) [(0,some ⟨172,aa aO (aG (aK) l)⟩)]:=by
 have hne2:=gQ h0
 refine aW 1 Tryz.func62 (fun cx hN hR hF hL=> ?_) (by simp[go_sem,hne2,qy])
 refine' run tt (V.l4 fun K hK=> ?_)
 (refine aB [0] (Zf l h0 hl hP) ?_)
 (revert K;refine bK ?_;exact run tt tt)
section
attribute [local go_sem] Option.toList_some Option.toList_none
theorem Zh:Fun Tryz.prog 156 [.v (.slice none 0 0),int 0,int 0,.v (.func (.func 63) #[] #[])] (.tup []):=by
 refine af Tryz.func156 fun cx hN hR hF hL=> ?_
 have w1:IntKind.i64.wrap (0+1)=1:=wE
 refine' run w1 (V.l1 ?_)
 refine bU 1 ?_
 exact run w1 tt
theorem Zi:Fun Tryz.prog 114 [.v (.slice none 0 0),int 0,.v (.func (.func 63) #[] #[])] (.tup []):=by
 refine af Tryz.func114 fun cx hN hR hF hL=> ?_
 refine' run tt (V.l1 ?_)
 refine bU 1 ?_
 refine' aj tt Zh (V.l3 fun hq=> ?_)
 refine bU 1 ?_
 exact run tt tt
theorem Zj:Fun Tryz.prog 62 [.v (.slice none 0 0),.v (.func (.func 63) #[] #[])] (.tup []):=by
 refine af Tryz.func62 fun cx hN hR hF hL=> ?_
 exact aj tt Zi tt
theorem Zk (l:List Stp) (x:Stp):aa aO (l++[x])=aa aO l++[int x.file,int x.act.booked,int x.act.kind,int x.act.amt]:=by simp[aa,aO]
@[go_sem] def iA (r:Int×Int×Int):List AV:=[int r.1,int r.2.1,int r.2.2]
@[go_sem] theorem rowR_ren (r:Nat→Nat) (l:List (Int×Int×Int)):(aa iA l).map (AV.ren r)=aa iA l:=jh (fun x r=>by simp[iA]) r l
@[go_sem] theorem rowR_nms (p:Nat→Bool) (l:List (Int×Int×Int)):(aa iA l).all (AV.names p)=true:=ji (fun x p=>by simp[iA]) p l
theorem Zl (l:List (Int×Int×Int)) (a b c:Int):aa iA (l++[(a,b,c)])=aa iA l++[int a,int b,int c]:=by simp[aa,iA]
abbrev Fu (l:List (Int×Int×Int)):AV:= .sl false 3 (l.map iA)
theorem Mx:∀n,mM [AV.v (Value.int IntKind.i64 0)] n=aa ak (List.replicate n 0)
 |0=>rfl
 |n+1=>by rw[mM,Mx n];rfl
def bA (c:Cover) (l:List File):List (Int×Int×Int):=if bO c l=0 then(dX c l.length (bi l)).out else[]
attribute [local go_sem] Int.reduceEq List.length_set in
theorem Zm (c:Cover) (l:List File) (hc:c.ok) (hl:l.length≤100000):Fun Tryz.prog 24 [.agg c.flat,dW l] (.tup [Fu (bA c l),int (bO c l)]):=by
 by_cases he:bO c l=0
 ·have har:bL c l=true:=by
   cases h:bL c l with
   |true=>rfl
   |false=>simp[bO,h] at he
  have har0:c.rightB=true:=by
   rw[bL,Bool.and_eq_true] at har
   exact har.1
  have hn:l.length≤2000∧dm l≤2000:=by
   unfold bO at he
   split at he;·cases he
   split at he;·cases he
   omega
  by_cases h0:dm l=0
  ·have hz:∀f,f∈l→f.acts=[]:=by
    have key:∀m:List File,dm m=0→∀f,f∈m→f.acts=[]:=by
     intro m
     induction m with
     |nil=>intro _ f hf;simp at hf
     |cons g m ih=>
      intro h f hf
      have h2:dm (g::m)=g.acts.length+dm m:=by simp[dm]
      rcases List.mem_cons.1 hf with rfl|hf
      ·exact List.length_eq_zero_iff.1 byOmega
      ·exact ih byOmega f hf
    exact key l h0
   refine af Tryz.func24 fun cx hN hR hF hL=> ?_
   refine' aj he (Fj c l hc hl) (V.l3 fun hq=> ?_)
   refine aX (σ:={i:Nat // i≤l.length}) (fun s=>⟨[(27,int s.1),(7,.v (.slice none 0 0)),(25,dW l),(26,int l.length),(1,dW l),(2,.ptr 0 0)],[(0,some ⟨44,c.flat⟩)],6000⟩) (fun s=>l.length-s.1) id ⟨0,by omega⟩ ?_ ?_
   ·simp only[go_sem,↓reduceIte,hF]
    rfl
   ·rintro⟨i,h1⟩
    by_cases hi:i<l.length
    ·have e0:l[i]? =some l[i]:=List.getElem?_eq_getElem hi
     have e1:(l.map File.flat)[i]? =some l[i].flat:=by rw[List.getElem?_map,e0];rfl
     have e2:=wS i
     have hk1:i<(l.map File.flat).length:=by simpa using hi
     have hy:l[i].acts=[]:=hz _ (List.getElem_mem hi)
     generalize l[i]=f at *
     obtain⟨fc,fa⟩:=f
     simp only at hy
     subst hy
     refine' run (I e1 (I e2 hk1)) (V.l3 fun hq=> ?_)
     refine bU 1 ?_
     refine' run e2 (V.l3 fun hq=> ?_)
     refine⟨⟨i+1,hi⟩,id,?_,mS⟩
     simp only[go_sem,↓reduceIte,hF]
    ·obtain rfl:i=l.length:=byOmega
     (try focus ((try(revert K;refine bK ?_));refine' aj tt Zj ?_;(repeat' first|exact tt|apply lv|(apply oK;intro K hK)|intro hq);all_goals apply lf))
     ·refine bU 1 ?_
      refine' run tt (V.l3 fun hq=> ?_)
      have hpr:bA c l=[]:=by
       have:bi l=[]:=List.length_eq_zero_iff.1 (by rw[Fp];exact h0)
       rw[bA,if_pos he,this]
       rfl
      rw[hpr,he]
      exact⟨rfl,rfl⟩
     ·simp[maxLen];omega
     ·simp[maxLen];omega
  ·refine af Tryz.func24 fun cx hN hR hF hL=> ?_
   refine' aj he (Fj c l hc hl) (V.l3 fun hq=> ?_)
   refine rH 7 6000 4 172 rfl (Nat.le_of_ble_eq_true rfl) ?_
   refine aX (σ:={i:Nat // i≤l.length}) (fun s=>⟨[(27,int s.1),(7,.osl 6000 4 0 (dm (l.take s.1))),(25,dW l),(26,int l.length),(1,dW l),(2,.ptr 0 0)],[(6000,some ⟨172,aa aO (ek 0 (l.take s.1))⟩),(0,some ⟨44,c.flat⟩)],6001⟩) (fun s=>l.length-s.1) id ⟨0,by omega⟩ ?_ ?_
   ·simp only[go_sem,↓reduceIte,hF]
    exact⟨⟨rfl,rfl⟩,rfl⟩
   ·rintro⟨i,h1⟩
    by_cases hi:i<l.length
    ·have e0:l[i]? =some l[i]:=List.getElem?_eq_getElem hi
     have e1:(l.map File.flat)[i]? =some l[i].flat:=by rw[List.getElem?_map,e0];rfl
     have e2:=wS i
     have hk1:i<(l.map File.flat).length:=by simpa using hi
     have hs:=Lb e0
     have ht:=Lc l (i+1)
     have hst:ek 0 (l.take (i+1))=ek 0 (l.take i)++l[i].acts.map (Stp.mk i):=by
      rw[List.take_succ_eq_append_getElem hi,VA]
      simp[ek,Nat.min_eq_left (Nat.le_of_lt hi)]
     generalize l[i]=f at *
     obtain⟨fc,fa⟩:=f
     simp only at hs hst
     refine' run (I e1 (I e2 hk1)) (V.l3 fun hq=> ?_)
     refine aX (σ:={j:Nat // j≤fa.length}) (fun t=>⟨[(35,int t.1),(34,int fa.length),(33,uY fa),(8,int i),(7,.osl 6000 4 0 (dm (l.take i)+t.1)),(27,int i),(25,dW l),(26,int l.length),(1,dW l),(2,.ptr 0 0)],[(6000,some ⟨172,aa aO (ek 0 (l.take i)++(fa.take t.1).map (Stp.mk i))⟩),(0,some ⟨44,c.flat⟩)],9001⟩) (fun t=>fa.length-t.1) id ⟨0,by omega⟩ ?_ ?_
     ·simp only[go_sem,↓reduceIte,hF]
      rfl
     ·rintro⟨j,g1⟩
      by_cases hj:j<fa.length
      ·have k0:fa[j]? =some fa[j]:=List.getElem?_eq_getElem hj
       have k1:(fa.map Act.flat)[j]? =some fa[j].flat:=by rw[List.getElem?_map,k0];rfl
       have k2:=wS j
       have k3:j<(fa.map Act.flat).length:=by simpa using hj
       have k4:(fa.take (j+1)).map (Stp.mk i)=(fa.take j).map (Stp.mk i)++[⟨i,fa[j]⟩]:=by rw[List.take_succ_eq_append_getElem hj,List.map_append];rfl
       have k5:=jV (ek 0 (l.take i)++(fa.take j).map (Stp.mk i))
       generalize fa[j]=a at *
       refine' run (I k1 (I k2 k3)) (lv (fun hq=>lf ?_) (lv (fun hq=>o4 fun K hK=> ?_) tt))
       ·refine⟨⟨j+1,hj⟩,eG 6000 11041,?_,mS⟩
        simp only[k4,←List.append_assoc,Zk]
        simp only[go_sem,↓reduceIte,hF,List.map_append,List.all_append]
        rfl
       ·rw[k5,List.length_append,ym,List.length_map,List.length_take,Nat.min_eq_left g1]
        exact⟨rfl,by simp[maxLen];omega⟩
      ·obtain rfl:j=fa.length:=byOmega
       rw[←hs,List.take_length,←hst]
       refine' run e2 (V.l3 fun hq=> ?_)
       refine⟨⟨i+1,hi⟩,id,?_,mS⟩
       simp only[go_sem,↓reduceIte,hF]
    ·obtain rfl:i=l.length:=byOmega
     simp only[List.take_length]
     have hc1:=Zg (ek 0 l) (by rw[ym];omega) (by rw[ym];omega) (fun _ _=>trivial)
     rw[ym] at hc1
     refine' run tt (lv (fun hq=>o4 fun K hK=> ?_) tt)
     (refine aB [6000] (hc1) ?_)
     (try focus ((try(revert K;refine bK ?_));refine' run tt ?_;(repeat' first|exact tt|apply lv|(apply oK;intro K hK)|intro hq);all_goals apply lf))
     rotate_left
     ·simp[maxLen];omega
     ·simp[maxLen];omega
     simp only[Mx]
     refine rH 15 11001 3 89 rfl (Nat.le_of_ble_eq_true rfl) ?_
     have hL:=Fp l
     have hst2:aG aK (ek 0 l)=bi l:=rfl
     rw[hst2]
     have hmem:=fun x (hx:x∈bi l)=>nK har hx
     have hPB:=tu har0 l.length (L:=bi l) (fun x hx=>by obtain⟨k,_,_,_,h⟩:=hmem x hx;exact h)
     have hTl:=jV (bi l)
     generalize hLe:bi l=L at *
     simp only[←hL]
     refine aX (σ:={i:Nat // i≤L.length}) (fun s=>⟨[(57,int s.1),(56,int L.length),(55,.osl 6000 4 0 L.length),(15,.osl 11001 3 0 (dX c l.length (L.take s.1)).out.length),(14,int (dX c l.length (L.take s.1)).all),(13,.osl 8041 1 0 l.length),(12,.osl 8017 1 0 l.length),(2,.ptr 0 0)],[(11001,some ⟨89,aa iA (dX c l.length (L.take s.1)).out⟩),(8041,some ⟨3,aa ak (dX c l.length (L.take s.1)).paid⟩),(8017,some ⟨3,aa ak (dX c l.length (L.take s.1)).shown⟩),(6000,some ⟨172,aa aO L⟩),(0,some ⟨44,c.flat⟩)],11002⟩) (fun s=>L.length-s.1) id ⟨0,by omega⟩ ?_ ?_
     ·simp only[go_sem,↓reduceIte,hF]
      exact⟨⟨rfl,rfl,rfl⟩,rfl,rfl,rfl⟩
     ·rintro⟨i,g1⟩
      by_cases gi:i<L.length
      ·have e0:L[i]? =some L[i]:=List.getElem?_eq_getElem gi
       have e1:=jm e0
       have e2:=wS i
       have hnx:=yA (c:=c) (n:=l.length) e0
       have hP:=hPB i g1
       have z4:=gQ (l:=L) byOmega
       obtain⟨k,q1,q2,q3,q4⟩:=hmem _ (List.getElem_mem gi)
       generalize L[i]=x at *
       obtain⟨xf,bk,kd,am⟩:=x
       simp only at q2 q4
       subst q2
       have gk:=hP.get1 k
       have gp:=hP.get2 k
       have gb:=hP.al
       have gl1:=hP.l1
       have gl2:=hP.l2
       unfold lK at hnx
       simp only[Int.toNat_natCast] at hnx
       by_cases hk:kd=2
       ·subst hk
        rw[if_pos rfl] at hnx
        generalize dX c l.length (L.take i)=s at *
        obtain⟨sS,sP,sA,sO⟩:=s
        simp only at gl1 gl2 gk gp gb hnx
        have ou:=hP.ou
        simp only at ou
        have r1:sS[k]? =some (sS.getD k 0):=by rw[List.getD_eq_getElem?_getD,List.getElem?_eq_getElem byOmega];rfl
        have r2:sP[k]? =some (sP.getD k 0):=by rw[List.getD_eq_getElem?_getD,List.getElem?_eq_getElem byOmega];rfl
        generalize sS.getD k 0=sh at *
        generalize sP.getD k 0=pk at *
        have m1:=iG r1
        have m2:=iG r2
        have hcv:=kL.1 har0
        have z1:=fF (l:=sS) byOmega
        have z2:=fF (l:=sP) byOmega
        have z3:=fF (l:=sS.set k (sh+am)) (by rw[List.length_set];omega)
        have w1:IntKind.i64.wrap (sh+am)=sh+am:=wE
        have w2:IntKind.i64.wrap (sA-pk)=sA-pk:=wE
        have hb1:=yl (c:=c) har0 (sh+am) (used:=sA-pk) byOmega
        have hb2:=oO (c:=c) har0 (sh+am)
        have hpy:=Ff c (sh+am) (sA-pk) hc (by unfold Int64;omega) (by unfold Int64;omega)
        generalize pays c (sh+am) (sA-pk)=pw at *
        have w3:IntKind.i64.wrap (pw-pk)=pw-pk:=wE
        have w4:IntKind.i64.wrap (pk+(pw-pk))=pw:=wE
        have w5:IntKind.i64.wrap (sA+(pw-pk))=sA+(pw-pk):=wE
        have m3:(sS.set k (sh+am))[k]? =some (sh+am):=by rw[List.getElem?_set_self byOmega]
        have m4:=iG m3
        have n1:=mW sS k (sh+am) byOmega
        have n2:=mW sP k pw byOmega
        have q5:k<sS.length:=byOmega
        have q6:k<sP.length:=byOmega
        by_cases hw:pw-pk≤0
        ·rw[if_pos hw] at hnx
         refine' aj (I e1 (I e2 (I hTl (I gi (I EL (I m1 (I m2 (I w1 (I w2 (I w3 (I m4 (I n1 (I q5 (I q6 (I cz (I z1 (I z2 (I z3 (I z4 (I (eq_true hw) (decide_eq_true hw))))))))))))))))))))) hpy (lv (fun hq=>fun hq=>fun hq=>lf ?_) tt)
         refine⟨⟨i+1,gi⟩,id,?_,mS⟩
         simp only[hnx]
         simp only[go_sem,↓reduceIte,hF]
        ·rw[if_neg hw] at hnx
         refine' aj (I e1 (I e2 (I hTl (I gi (I EL (I m1 (I m2 (I w1 (I w2 (I w3 (I w4 (I w5 (I m4 (I n1 (I n2 (I q5 (I q6 (I cz (I z1 (I z2 (I z3 (I z4 (I (eq_false hw) (decide_eq_false hw)))))))))))))))))))))))) hpy (lv (fun hq=>fun hq=>fun hq=>lf ?_) (lv (fun hq=>fun hq=>fun hq=>o4 fun K hK=> ?_) tt))
         ·refine⟨⟨i+1,gi⟩,eG 11001 18074,?_,mS⟩
          simp only[hnx,List.length_append,List.length_singleton,Zl]
          simp only[go_sem,↓reduceIte,hF,List.map_append,List.all_append]
         ·have hro:(aa iA sO).length=sO.length*3:=dU (F:=iA) (k:=3) (fun _=>rfl) sO
          exact⟨hro,by simp[maxLen];omega⟩
       ·rw[if_neg hk] at hnx
        refine' run (I e1 (I e2 (I hk (I hTl (I gi (I EL z4)))))) (lv (fun hq=>fun hq=>lf ?_) tt)
        refine⟨⟨i+1,gi⟩,id,?_,mS⟩
        simp only[hnx]
        simp only[go_sem,↓reduceIte,hF]
      ·obtain rfl:i=L.length:=byOmega
       simp only[List.take_length]
       refine' run tt (V.l3 fun hq=> ?_)
       have hpr:bA c l=(dX c l.length L).out:=by rw[bA,if_pos he,hLe]
       rw[hpr,he]
       exact⟨⟨⟨rfl,bS (F:=iA) (fun _=>rfl) _⟩,dR (F:=iA) (k:=3) (fun _=>rfl) (fun _=>by simp[iA]) _ rfl⟩,rfl⟩
 ·refine af Tryz.func24 fun cx hN hR hF hL=> ?_
  refine' aj he (Fj c l hc hl) (V.l3 fun hq=> ?_)
  simp[bA,he]
theorem Zn {c:Cover} {l:List File} (h:bL c l=true):∀f,f∈l→f.acts.Pairwise fun a b=>a.booked≤b.booked:=by
 intro f hf
 rw[bL,Bool.and_eq_true,List.all_eq_true] at h
 have:=h.2 f hf
 rw[iW,Bool.and_eq_true] at this
 exact(u6 this.2).srt
theorem MB:∀(l:List Int) (k:Nat) (w:Int),k<l.length→(l.set k w).sum=l.sum+(w-l.getD k 0)
 | [],k,w,h=>absurd h (Nat.not_lt_zero k)
 |x::l,0,w,_=>by simp;omega
 |x::l,k+1,w,h=>by
  have:=MB l k w (by simpa using h)
  simp at this ⊢
  omega
theorem Zo {c:Cover} {n m:Nat} {s:PS} (h:PB c n m s) (hs:s.paid.sum=s.all) (x:Stp) {k:Nat} (hx:x.file=(k:Int)) (hk:k<n):(lK c s x).paid.sum=(lK c s x).all:=by
 unfold lK
 split
 ·simp only
  split
  ·exact hs
  ·simp only
   rw[hx,Int.toNat_natCast,MB _ _ _ (by rw[h.l2];exact hk),hs]
 ·exact hs
theorem Zp {c:Cover} {l:List File} (h:bL c l=true):∀i,i≤(bi l).length→(dX c l.length ((bi l).take i)).paid.sum=(dX c l.length ((bi l).take i)).all:=by
 have hr:c.rightB=true:=by rw[bL,Bool.and_eq_true] at h;exact h.1
 have hPB:=tu hr l.length (L:=bi l) fun x hx=>by obtain⟨_,_,_,_,h⟩:=nK h hx;exact h
 intro i
 induction i with
 |zero=>
  intro _
  show(List.replicate l.length (0:Int)).sum=0
  simp
 |succ i ih=>
  intro hi
  have e0:(bi l)[i]? =some (bi l)[i]:=List.getElem?_eq_getElem hi
  rw[yA e0]
  obtain⟨k,h1,h2,_⟩:=nK h (List.getElem_mem hi)
  exact Zo (hPB i byOmega) (ih byOmega) _ h2 h1
end
end Go.Proofs.YtlikpcpllahalaaGreat.V
