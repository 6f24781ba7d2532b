/- Parts of the proof. -/
import Derived.Test.YtlikpcpllahalaaGreatG50
set_option maxHeartbeats 16000000
set_option linter.unusedSimpArgs false
set_option linter.unusedVariables false
namespace Go.Proofs.YtlikpcpllahalaaGreat.V
open Go.RowKit
set_option maxRecDepth 100000
attribute [local go_sem] Option.toList_some Option.toList_none Int.reduceEq Int.reduceNe
def vT (R:Int×List Gr):List Gr:=if R.1=0 then R.2 else[]
theorem aaP {s:Stt} {k:Nat} {out:List Gr} (h:GP s k out) {p:Int} {c:Cover} {i:Nat} {g:Gr} (hg:out[i]? =some g) (hi:jY p c g=true) {j:Nat} {x:Gr} (hj:out[j]? =some x) (hx:jY p c x=true):j=i:=by
 have h1:=tK.1 hi
 have h2:=tK.1 hx
 exact h.ky j i x g hj hg (by rw[h2.1,h1.1]) (by rw[h2.2,h1.2])
theorem Nr {cx:Cx} (hF:cx.F=fun _=>none) {A:LS} {env':Env} {l TL:ay} {n:Nat} (henv:jM (fun b=>decide (b<n)) id A.env env') (hl:gY (fun b=>decide (b<n)) id A.box l) (ht:gY (fun b=>decide (b<n)) id A.box TL):LCut cx id A ⟨env',l++TL,n⟩:=
 ⟨henv,vN hl ht,tF fun _ _ _ _ _ _ h=>h,fun b g h=>by rw[hF] at h;cases h⟩
def pE (s:Stt) (k:Nat) (f:File) (q:Cover) (n m:Nat) (met:Int):Env:=(48,int m)::(47,int n)::(46,.osl 3001 8 0 n)::(11,int met)::(9,.ptr 4003080 0)::(6,.ptr 4001024 0)::(5,int k)::gG s k n
def nQ (s:Stt) (f:File) (q:Cover) (cs:List AV):ay:=[(4003080,some ⟨44,q.flat⟩),(4001024,some ⟨95,f.flat⟩),(0,some ⟨32,s.flat⟩),(3001,some ⟨47,cs⟩)]
theorem F4 {α β:Type} {F:β→α→List AV} {k:Nat} (hF:∀b x,(F b x).length=k):∀ {l:List α} {nm:Nat→β} {i:Nat} {x:α},l[i]? =some x→((aS F nm l).drop (i*k)).take k=F (nm i) x
 | [],_,_,_,h=>by simp at h
 |y::l,nm,0,x,h=>by
  injection h with h
  subst h
  rw[Nat.zero_mul,List.drop_zero,aS,List.take_left' (hF _ _)]
 |y::l,nm,i+1,x,h=>by
  rw[aS,List.drop_append,List.drop_eq_nil_of_le (by rw[hF,Nat.add_mul];omega),List.nil_append,hF,show(i+1)*k-k=i*k by rw[Nat.add_mul];omega]
  exact F4 hF (nm:=fun j=>nm (j+1)) (by simpa using h)
theorem Cq {p:Nat→Bool} {r:Nat→Nat} {box:ay} {c:Nat} {z:Option Bx}:∀ {l:ay},(∀b x,(b,x)∈l→r b≠c)→gY p r box l→gY p r ((c,z)::box) l
 | [],_,_=>True.intro
 |(b,some x)::l,h,h2=>⟨by rw[bq,if_neg (h b (some x) ai)];exact h2.1,Cq (fun b x hb=>h b x (by simp[hb])) h2.2⟩
 |(b,none)::l,h,h2=>Cq (l:=l) (fun b x hb=>h b x (by simp[hb])) h2
theorem Ns {X xs:List AV} {o j:Nat} (h:o+xs.length≤X.length) (hj:o+xs.length≤j):(splice X o xs)[j]? =X[j]? :=by
 have hl:(X.take o++xs).length=o+xs.length:=by rw[List.length_append,List.length_take];omega
 unfold splice
 rw[List.getElem?_append_right byOmega,hl,List.getElem?_drop]
 congr 1
 omega
theorem Nt {X:List AV} {o:Nat} {a b:AV} (h:o+2≤X.length):splice (splice X o [a]) (o+1) [b]=splice X o [a,b]:=by
 have hl:(X.take o++[a]).length=o+1:=by rw[List.length_append,List.length_take,List.length_singleton];omega
 unfold splice
 rw[List.take_append_of_le_length byOmega,List.take_of_length_le byOmega,List.drop_append,List.drop_eq_nil_of_le (by rw[hl];simp),List.nil_append,hl,List.drop_drop]
 simp only[List.length_singleton,List.length_cons,List.length_nil,List.append_assoc,List.cons_append,List.nil_append]
 rw[show o+1+(o+1+1-(o+1))=o+(0+1+1) by omega]
def nR (s:Stt) (f:File) (q:Cover) (cs:List AV) (g:Gr):ay:=[(4003080,some ⟨44,q.flat⟩),(4001024,some ⟨95,f.flat⟩),(0,some ⟨32,s.flat⟩),(3001,some ⟨47,cs⟩),(7,some ⟨95,aa File.flat (aR s g.at_)⟩),(8,some ⟨3,aa ak g.at_⟩)]
def kT (a b c d:Nat) (x:Nat):Nat:=cZ a b (cZ c d x)
def iB (i:Nat) (j:Nat):Nat×Nat:=if j=i then(7,8) else(1000000+j,2000000+j)
theorem Cr {i j:Nat} (h:j≤1000):(iB i j).1<4008000∧(iB i j).2<4008000:=by unfold iB;split<;>(constructor<;>simp only<;>omega)
def kU (a b c d e:Nat) (x:Nat):Nat:=cZ 3001 a (cZ b c (cZ d e x))
theorem Nu {s:Stt} {A:List (List File)} {B:List (List Int)} (hA:A.length≤1000) (hB:B.length≤1000) {b:Nat} {x:Option Bx} (h:(b,x)∈fJ s A B):b<3000000:=by
 rcases List.mem_append.1 h with h|h
 ·have:=FH h;omega
 ·have:=FH h;omega
theorem F5 {cx:Cx} (hF:cx.F=fun _=>none) {env env':Env} {L:ay} {n:Nat} {z1 z2:Option Bx} (henv:jM (fun b=>decide (b<4008000)) id env env') (hLL:gY (fun b=>decide (b<4008000)) id L L) (hL:∀b x,(b,x)∈L→b<4008000):
 LCut cx id ⟨env,(4009024,z1)::(4009024,z2)::L,n⟩ ⟨env',L,4008000⟩:=
 ⟨henv,Cq (fun b x h=>by have:=hL b x h;show b≠_;omega) (Cq (fun b x h=>by have:=hL b x h;show b≠_;omega) hLL),tF fun _ _ _ _ _ _ h=>h,fun b g h=>by rw[hF] at h;cases h⟩
attribute [local go_sem] Int.reduceLT Int.reduceNeg in
theorem aaQ {n:Nat} {T:List Version} {s:Stt} (hn:n≤300) (hT:TSz T) (hs:Sz n T s):Fun Tryz.prog 13 [.agg s.flat] (.tup [F3 s (vT (eO s)),bool (decide ((eO s).1=0))]):=by
 have hfl:=hs.fil
 have hal:=hs.acc
 generalize hGX:eO s=R
 refine af Tryz.func13 fun cx hN hR hF hL=> ?_
 refine' run tt (V.l1 ?_)
 refine rH 4 3001 8 47 rfl (Nat.le_of_ble_eq_true rfl) ?_
 refine Jf (σ:={q:Nat×List Gr // q.1≤s.files.length∧kR s q.1 q.2 (s.files.drop q.1)=R∧CgOk s q.1 q.2}) (fun q=>jH s q.1.1 q.1.2) (fun q=>s.files.length-q.1.1) id ⟨(0,[]),by omega,hGX,GP.zero s,GrOk.zero⟩ ?_ ?_
 ·simp only[go_sem,↓reduceIte,hF,jH,gG,fJ,aS,fe,List.map_nil]
  all_goals rfl
 ·rintro⟨⟨k,out⟩,h1,h2,h3⟩
  simp only at h1 h2 h3 ⊢
  by_cases hk:k<s.files.length
  ·have e1:(s.files.map File.flat)[k]? =some (s.files[k].flat):=by rw[List.getElem?_map,List.getElem?_eq_getElem hk];rfl
   have e2:=wS k
   have e0:s.files[k]? =some s.files[k]:=List.getElem?_eq_getElem hk
   rw[List.drop_eq_getElem_cons hk,kR] at h2
   have ka:=Fe s s.files[k].claim.policy byOmega
   have hcv:vI s s.files[k]=dZ (s.his s.files[k].claim.policy) s.tariff s.files[k].claim:=rfl
   have hcz:= @FK (s.his s.files[k].claim.policy) s.tariff s.files[k].claim
   generalize s.files[k]=f at *
   rw[hcv] at h2
   cases ha:s.acct f.claim.policy with
   |none=>
    rw[ha] at ka
    have hz:= @MR s.tariff f.claim
    have kc:=yn bg s.tariff f.claim ⟨⟨by simp[bg],by simp[bg,fG],by simp[bg]⟩,hs.tr▸hT.t,hs.tr▸hT.v⟩ (by have:=EK (h:=bg) (T:=s.tariff) (b:=f.claim.booked);simp[bg] at this;simp[bg];omega)
     (fun x hx=>by have:=FC (n:=50) (h:=bg) (by simp[bg,fG]) (by simp[bg]) x hx;omega)
    rw[FJ] at kc
    have hh:s.his f.claim.policy=bg:=by unfold Stt.his;rw[ha]
    rw[hh] at h2 hcz
    generalize dZ bg s.tariff f.claim=X at *
    obtain⟨e,o⟩:=X
    simp only at hz
    subst hz
    have he:e≠0:=hcz.1 rfl
    simp only at h2
    subst h2
    simp only[qF,bu] at kc
    simp only[oZ] at ka
    simp only[vT,decide_eq_false he,if_neg he]
    refine aL ?_
    unfold jH gG
    (repeat' first|focus ((try(revert K;refine bK ?_));refine' aj (I e1 (I e2 (I (eq_false he) (decide_eq_false he)))) ka ?_;(repeat' first|exact tt|apply lv|(apply oK;intro K hK)|intro hq);all_goals apply lf)|(with_reducible apply aU [] HV (kc);(case hy|hl|hk=>(simp only[go_sem,↓reduceIte];try with_unfolding_all rfl));(case hz=>(with_unfolding_all simp[go_sem,aH,e1,e2,eq_false he,decide_eq_false he];done))))
   |some a=>
    rw[ha] at ka
    have hma:a∈s.acc:=List.mem_of_find?_eq_some ha
    have hco:=hs.cov hn hT hma f.claim
    have kc:=yn a.h s.tariff f.claim hco.s hco.l hco.q
    have hh:s.his f.claim.policy=a.h:=by unfold Stt.his;rw[ha]
    rw[hh] at h2 hcz hcv
    generalize dZ a.h s.tariff f.claim=X at *
    obtain⟨e,o⟩:=X
    simp only[oZ] at ka
    cases o with
    |none=>
     have he:e≠0:=hcz.1 rfl
     simp only at h2
     subst h2
     simp only[qF,bu] at kc
     simp only[vT,decide_eq_false he,if_neg he]
     refine aL ?_
     unfold jH gG
     exact aj (I e1 (I e2 (I (eq_false he) (decide_eq_false he)))) (I ka kc) tt
    |some q=>
     have he:e=0:=by
      by_cases h:e=0
      ·exact h
      ·exact absurd (hcz.2 h) ai
     subst he
     simp only at h2
     simp only[qF] at kc
     have hol:=h3.o.l
     have h4:CgOk s (k+1) (nM out f.claim.policy q k):=⟨h3.g.add e0 hcv,h3.o.add _ _ _⟩
     cases hx:out.findIdx? (jY f.claim.policy q) with
     |none=>
      refine aL ?_
      unfold jH gG
      refine' aj (I e1 e2) (I ka kc) (lv (fun hq=>fun hq=>lf ?_) tt)
      have hln:=qO pz out (fun j=>(1000000+j,2000000+j))
      have h1000:out.length≤1000:=byOmega
      have hLL:gY (fun b=>decide (b<4008000)) id (nQ s f q (aS dI (fun j=>(1000000+j,2000000+j)) out)++fJ s (out.map fun g=>aR s g.at_) (out.map Gr.at_)) (nQ s f q (aS dI (fun j=>(1000000+j,2000000+j)) out)++fJ s (out.map fun g=>aR s g.at_) (out.map Gr.at_)):=by
       refine vN ?_ ?_
       ·simp only[go_sem,↓reduceIte,hF,nQ,List.cons_append,List.nil_append]
        exact⟨by rw[o9 (q:=fun b=>b) (fun b x=>vO id b x)],pg fun j x hj=>vP (df (by simp only;omega)) (df (by simp only;omega)) x⟩
       ·refine vS (fun j y hy hne=> ?_) (fun j y hy hne=> ?_) (fun b g1 g2=>df byOmega) (by simpa using h1000) (by simpa using h1000)
        ·have hjl:=(List.getElem?_eq_some_iff.1 hy).1
         rw[List.length_map] at hjl
         show ah _ (1000000+j)=_
         unfold nQ
         repeat rw[List.cons_append,bq,if_neg byOmega]
         exact vQ (s:=s) hy hne
        ·have hjl:=(List.getElem?_eq_some_iff.1 hy).1
         rw[List.length_map] at hjl
         show ah _ (2000000+j)=_
         unfold nQ
         repeat rw[List.cons_append,bq,if_neg byOmega]
         exact vR (s:=s) (by simpa using h1000) hy hne
      have hLlt:∀b x,(b,x)∈nQ s f q (aS dI (fun j=>(1000000+j,2000000+j)) out)++fJ s (out.map fun g=>aR s g.at_) (out.map Gr.at_)→b<4008000:=fun b x h=>by
       rcases List.mem_append.1 h with h|h
       ·simp only[nQ,List.mem_cons,Prod.mk.injEq,List.not_mem_nil,or_false] at h
        omega
       ·have:=Nu (s:=s) (A:=out.map fun g=>aR s g.at_) (B:=out.map Gr.at_) (by simpa using h1000) (by simpa using h1000) h
        omega
      refine aX (σ:={m:Nat // m≤out.length}) (fun m=>⟨pE s k f q out.length m.1 (-1),nQ s f q (aS dI (fun j=>(1000000+j,2000000+j)) out)++fJ s (out.map fun g=>aR s g.at_) (out.map Gr.at_),4008000⟩) (fun m=>out.length-m.1) id ⟨0,by omega⟩ ?_ ?_
      ·refine Nr hF ?_ ?_ ?_
       ·simp only[go_sem,↓reduceIte,hF,pE,gG]
        rfl
       ·simp only[go_sem,↓reduceIte,hF,nQ]
        exact⟨by rw[o9 (q:=fun b=>b) (fun b x=>vO id b x)],pg fun j x hj=>vP (df (by simp only;omega)) (df (by simp only;omega)) x⟩
       ·refine vS (fun j y hy hne=> ?_) (fun j y hy hne=> ?_) (fun b g1 g2=>df byOmega) (by simpa using h1000) (by simpa using h1000)
        ·have hjl:=(List.getElem?_eq_some_iff.1 hy).1
         rw[List.length_map] at hjl
         show ah _ (1000000+j)=_
         repeat rw[bq,if_neg byOmega]
         exact vQ (s:=s) hy hne
        ·have hjl:=(List.getElem?_eq_some_iff.1 hy).1
         rw[List.length_map] at hjl
         show ah _ (2000000+j)=_
         repeat rw[bq,if_neg byOmega]
         exact vR (s:=s) (by simpa using h1000) hy hne
      ·rintro⟨m,hm1⟩
       simp only
       unfold pE gG nQ
       by_cases hm2:m<out.length
       ·have d0:out[m]? =some out[m]:=List.getElem?_eq_getElem hm2
        have d1:=F4 pz (nm:=fun j=>(1000000+j,2000000+j)) d0
        have d2:=wS m
        have d3:=List.findIdx?_eq_none_iff.1 hx _ (List.getElem_mem hm2)
        generalize out[m]=g at *
        simp only[dI] at d1
        have d4:(m*8+8≤out.length*8)=True:=eT
        refine' run (I d1 (I d2 (I hln d4))) (lv (fun hq=>fun hq=>lf ?_) (lv (fun hq=>fun hq=>lf ?_) (lv (fun hq=>o4 fun K hK=> ?_) tt)))
        ·exfalso
         have hgi:jY f.claim.policy q g=true:=tK.2 ⟨hq.1,(FL (a:=g.cover) (b:=q)).mp hq.2⟩
         rw[hgi] at d3
         exact absurd d3 ai
        ·refine⟨⟨m+1,hm2⟩,id,F5 hF ?_ hLL hLlt,mS⟩
         simp only[go_sem,↓reduceIte,hF,pE,gG]
        all_goals(intro h;rw[h] at hln;simp at hln;omega)
       ·obtain rfl:m=out.length:=byOmega
        have e9:(aS dI (fun j=>(1000000+j,2000000+j)) out++[int f.claim.policy,int q.peril,int q.limit,int q.agg,int q.ded,int q.share,.v (.slice none 0 0),.v (.slice none 0 0)])[out.length*8+6]? =some (.v (.slice none 0 0)):=by
         rw[List.getElem?_append_right byOmega,hln,Nat.add_sub_cancel_left];rfl
        have hrl:(aS dI (fun j=>(1000000+j,2000000+j)) out++[int f.claim.policy,int q.peril,int q.limit,int q.agg,int q.ded,int q.share,.v (.slice none 0 0),.v (.slice none 0 0)]).length=out.length*8+8:=by rw[List.length_append,hln];rfl
        have e10:(List.take (out.length*8+6) (aS dI (fun j=>(1000000+j,2000000+j)) out++[int f.claim.policy,int q.peril,int q.limit,int q.agg,int q.ded,int q.share,.v (.slice none 0 0),.v (.slice none 0 0)])++[AV.osl 4012072 7 0 1]++
         List.drop (out.length*8+6+1) (aS dI (fun j=>(1000000+j,2000000+j)) out++[int f.claim.policy,int q.peril,int q.limit,int q.agg,int q.ded,int q.share,.v (.slice none 0 0),.v (.slice none 0 0)]))[out.length*8+7]? =some (.v (.slice none 0 0)):=by
         refine(Ns (xs:=[AV.osl 4012072 7 0 1]) (by rw[hrl];simp) ai).trans ?_
         rw[List.getElem?_append_right byOmega,hln,Nat.add_sub_cancel_left];rfl
        refine' run (I e9 (I e10 (I hln e2))) (lv (fun hq=>fun hq=>lf ?_) (lv (fun hq=>fun hq=>o4 fun K hK=> ?_) (lv (fun hq=>fun hq=>o4 fun K hK=> ?_) (lv (fun hq=>fun hq=>o4 fun K hK=> ?_) (lv (fun hq=>fun hq=>o4 fun K hK=> ?_) (lv (fun hq=>fun hq=>o4 fun K hK=> ?_) tt))))))
        all_goals first|(simp[maxLen];done)|(simp[maxLen];omega)|skip
        have hlo:(out++[(⟨f.claim.policy,q,[(k:Int)]⟩:Gr)]).length=out.length+1:=by simp
        have hfn:aR s [(k:Int)]=[f]:=by simp[aR,e0]
        rw[FO hx] at h2 h4
        have sA:∀j,j<out.length→kU 4011056 (1000000+out.length) 4012072 (2000000+out.length) 4013072 (1000000+j)=1000000+j:=fun j hj=>by rw[kU,bv (x:=1000000+j) byOmega byOmega,bv (x:=1000000+j) byOmega byOmega,bv byOmega byOmega]
        have sB:∀j,j<out.length→kU 4011056 (1000000+out.length) 4012072 (2000000+out.length) 4013072 (2000000+j)=2000000+j:=fun j hj=>by rw[kU,bv (x:=2000000+j) byOmega byOmega,bv (x:=2000000+j) byOmega byOmega,bv byOmega byOmega]
        have sC:kU 4011056 (1000000+out.length) 4012072 (2000000+out.length) 4013072 (1000000+out.length)=4012072:=by rw[kU,bv (x:=1000000+out.length) byOmega byOmega,mD,bv byOmega byOmega]
        have sD:kU 4011056 (1000000+out.length) 4012072 (2000000+out.length) 4013072 (2000000+out.length)=4013072:=by rw[kU,mD,bv (x:=4013072) byOmega byOmega,bv byOmega byOmega]
        have s0:kU 4011056 (1000000+out.length) 4012072 (2000000+out.length) 4013072 0=0:=by rw[kU,bv (x:=0) byOmega byOmega,bv (x:=0) byOmega byOmega,bv byOmega byOmega]
        have s1:kU 4011056 (1000000+out.length) 4012072 (2000000+out.length) 4013072 3001=4011056:=by rw[kU,bv (x:=3001) byOmega byOmega,bv (x:=3001) byOmega byOmega,mD]
        refine⟨⟨(k+1,out++[⟨f.claim.policy,q,[(k:Int)]⟩]),hk,h2,h4⟩,kU 4011056 (1000000+out.length) 4012072 (2000000+out.length) 4013072,?_,mS⟩
        refine Nq hF s (k+1) _ _ _ (fun j=>if j=out.length then(4012072,4013072) else(1000000+j,2000000+j)) (fun x y h=>mr (mr (mr h))) (by rw[hlo];omega) ?_ ?_ ?_ ?_ ?_
        ·rw[hlo]
         simp[gG,jM,bf,s0,s1,dW,pF]
        ·rw[s0];rfl
        ·rw[s1,bq,if_pos rfl]
         refine congrArg (fun c=>some (Bx.mk 47 c)) ?_
         refine(Nt (o:=out.length*8+6) (a:= .osl 4012072 7 0 1) (b:= .osl 4013072 1 0 1) (by rw[hrl];omega)).trans ?_
         exact M3 pz (l:=out) (nm:=fun j=>(1000000+j,2000000+j)) (o:=6) (xs:=[.osl 4012072 7 0 1,.osl 4013072 1 0 1]) (b:=(4012072,4013072)) (y:=⟨f.claim.policy,q,[(k:Int)]⟩) rfl
        ·intro j hj
         rw[hlo] at hj
         by_cases h:j=out.length
         ·rw[if_pos h,h];exact⟨sC,sD⟩
         ·rw[if_neg h];exact⟨sA j byOmega,sB j byOmega⟩
        ·intro j g hj
         have hj1:=(List.getElem?_eq_some_iff.1 hj).1
         rw[hlo] at hj1
         by_cases h:j=out.length
         ·subst h
          rw[sC,sD]
          rw[List.getElem?_append_right (Nat.le_refl _),Nat.sub_self] at hj
          injection hj with hj
          subst hj
          simp only[hfn]
          exact⟨rfl,rfl⟩
         ·rw[List.getElem?_append_left byOmega] at hj
          rw[sA j byOmega,sB j byOmega]
          constructor
          ·repeat(first|rw[bq,if_neg byOmega]|rw[List.cons_append,bq,if_neg byOmega])
           exact BX h3 hj
          ·repeat(first|rw[bq,if_neg byOmega]|rw[List.cons_append,bq,if_neg byOmega])
           exact BZ h3 h1000 hj
     |some i=>
      obtain⟨g,hg,hgi,-⟩:=lQ hx
      have hil:=(List.getElem?_eq_some_iff.1 hg).1
      have h1000:out.length≤1000:=byOmega
      have hgl:=h3.o.a g (List.mem_of_getElem? hg)
      have hgf:=h3.fs (List.mem_of_getElem? hg)
      rw[FP hx hg] at h2 h4
      refine oq _ _ (aaN hF h3 i g h1000 hg) ?_
      refine aL ?_
      unfold BU gG
      have hcz2:(fun j=>if j=i then(7,8) else(1000000+j,2000000+j))=iB i:=rfl
      rw[hcz2]
      refine' aj (I e1 e2) (I ka kc) (lv (fun hq=>fun hq=>lf ?_) tt)
      have hln:=qO pz out (iB i)
      have hA1:((out.map fun g=>aR s g.at_).set i []).length≤1000:=by simpa using h1000
      have hB1:((out.map Gr.at_).set i []).length≤1000:=by simpa using h1000
      have hLL:gY (fun b=>decide (b<4008000)) id (nR s f q (aS dI (iB i) out) g++fJ s ((out.map fun g=>aR s g.at_).set i []) ((out.map Gr.at_).set i [])) (nR s f q (aS dI (iB i) out) g++fJ s ((out.map fun g=>aR s g.at_).set i []) ((out.map Gr.at_).set i [])):=by
       refine vN ?_ ?_
       ·have hd7:=pq oQ (aR s g.at_)
        have hd8:=pq qR g.at_
        simp only[go_sem,↓reduceIte,hF,nR,List.cons_append,List.nil_append]
        exact⟨by rw[o9 (q:=fun b=>b) (fun b x=>vO id b x)],pg fun j x hj=>vP (df (Cr byOmega).1) (df (Cr byOmega).2) x⟩
       ·refine vS (fun j y hy hne=> ?_) (fun j y hy hne=> ?_) (fun b g1 g2=>df byOmega) hA1 hB1
        ·have hjl:=(List.getElem?_eq_some_iff.1 hy).1
         show ah _ (1000000+j)=_
         unfold nR
         repeat rw[List.cons_append,bq,if_neg byOmega]
         exact vQ (s:=s) hy hne
        ·have hjl:=(List.getElem?_eq_some_iff.1 hy).1
         show ah _ (2000000+j)=_
         unfold nR
         repeat rw[List.cons_append,bq,if_neg byOmega]
         exact vR (s:=s) hA1 hy hne
      have hLlt:∀b x,(b,x)∈nR s f q (aS dI (iB i) out) g++fJ s ((out.map fun g=>aR s g.at_).set i []) ((out.map Gr.at_).set i [])→b<4008000:=fun b x h=>by
       rcases List.mem_append.1 h with h|h
       ·simp only[nR,List.mem_cons,Prod.mk.injEq,List.not_mem_nil,or_false] at h
        omega
       ·have:=Nu (s:=s) hA1 hB1 h
        omega
      refine aX (σ:={m:Nat // m≤out.length}) (fun m=>⟨pE s k f q out.length m.1 (if i<m.1 then(i:Int) else -1),nR s f q (aS dI (iB i) out) g++fJ s ((out.map fun g=>aR s g.at_).set i []) ((out.map Gr.at_).set i []),4008000⟩) (fun m=>out.length-m.1) id ⟨0,by omega⟩ ?_ ?_
      ·refine Nr hF ?_ ?_ ?_
       ·have h00:(if i<0 then(i:Int) else -1)= -1:=by rw[if_neg byOmega]
        simp only[h00]
        simp only[go_sem,↓reduceIte,hF,pE,gG]
        rfl
       ·simp only[go_sem,↓reduceIte,hF,nR]
        exact⟨by rw[o9 (q:=fun b=>b) (fun b x=>vO id b x)],pg fun j x hj=>vP (df (Cr byOmega).1) (df (Cr byOmega).2) x⟩
       ·refine vS (fun j y hy hne=> ?_) (fun j y hy hne=> ?_) (fun b g1 g2=>df byOmega) hA1 hB1
        ·have hjl:=(List.getElem?_eq_some_iff.1 hy).1
         show ah _ (1000000+j)=_
         repeat rw[bq,if_neg byOmega]
         exact vQ (s:=s) hy hne
        ·have hjl:=(List.getElem?_eq_some_iff.1 hy).1
         show ah _ (2000000+j)=_
         repeat rw[bq,if_neg byOmega]
         exact vR (s:=s) hA1 hy hne
      ·rintro⟨m,hm1⟩
       simp only
       unfold pE gG nR
       by_cases hm2:m<out.length
       ·have d0:out[m]? =some out[m]:=List.getElem?_eq_getElem hm2
        have d1:=F4 pz (nm:=iB i) d0
        have d2:=wS m
        generalize out[m]=x at *
        simp only[dI] at d1
        have d4:(m*8+8≤out.length*8)=True:=eT
        refine' run (I d1 (I d2 (I hln d4))) (lv (fun hq=>fun hq=>lf ?_) (lv (fun hq=>fun hq=>lf ?_) (lv (fun hq=>o4 fun K hK=> ?_) tt)))
        ·have hmi:m=i:=aaP h3.g hg hgi d0 (tK.2 ⟨hq.1,(FL (a:=x.cover) (b:=q)).mp hq.2⟩)
         subst hmi
         refine⟨⟨m+1,hm2⟩,id,F5 hF ?_ hLL hLlt,mS⟩
         have h00:(if m<m+1 then(m:Int) else -1)=m:=by rw[if_pos byOmega]
         simp only[h00]
         simp only[go_sem,↓reduceIte,hF,pE,gG]
        ·have hmi:m≠i:=by
          rintro rfl
          rw[hg] at d0
          injection d0 with d0
          subst d0
          have h5:=tK.1 hgi
          rw[h5.1,h5.2] at hq
          simp at hq
         refine⟨⟨m+1,hm2⟩,id,F5 hF ?_ hLL hLlt,mS⟩
         have h00:(if i<m+1 then(i:Int) else -1)=if i<m then(i:Int) else -1:=by
          by_cases h:i<m
          ·rw[if_pos h,if_pos byOmega]
          ·rw[if_neg h,if_neg byOmega]
         simp only[h00]
         simp only[go_sem,↓reduceIte,hF,pE,gG]
        all_goals(intro h;rw[h] at hln;simp at hln;omega)
       ·obtain rfl:m=out.length:=byOmega
        rw[if_pos hil]
        have b1:((i:Int)<0)=False:=eF
        have e9:(aS dI (iB i) out)[i*8+6]? =some (.osl 7 7 0 g.at_.length):=by
         rw[BN pz hg byOmega,iB,if_pos rfl];rfl
        have e10:(List.take (i*8+6) (aS dI (iB i) out)++[AV.osl 4010072 7 0 (g.at_.length+1)]++List.drop (i*8+6+1) (aS dI (iB i) out))[i*8+7]? =some (.osl 8 1 0 g.at_.length):=by
         refine(Ns (xs:=[AV.osl 4010072 7 0 (g.at_.length+1)]) (by rw[hln];simp;omega) ai).trans ?_
         rw[BN pz hg byOmega,iB,if_pos rfl];rfl
        have hrl7:(aa File.flat (aR s g.at_)).length=g.at_.length*7:=by rw[dU (F:=File.flat) (k:=7) (fun _=>rfl),hgf]
        have hrl8:(aa ak g.at_).length=g.at_.length:=by have:=dU (F:=ak) (k:=1) (fun _=>rfl) g.at_;omega
        refine' run (I e9 (I e10 (I hln (I hrl7 (I hrl8 (I e2 (I b1 (decide_eq_false (of_eq_false b1))))))))) (lv (fun hq=>fun hq=>lf ?_) (lv (fun hq=>fun hq=>o4 fun K hK=> ?_) (lv (fun hq=>fun hq=>o4 fun K hK=> ?_) (lv (fun hq=>fun hq=>o4 fun K hK=> ?_) (lv (fun hq=>fun hq=>o4 fun K hK=> ?_) tt)))))
        all_goals first|(simp[maxLen];done)|(simp[maxLen];omega)|(intro h;rw[h] at hln;simp at hln;omega)|skip
        have hlo:(out.set i (⟨g.policy,g.cover,g.at_++[(k:Int)]⟩:Gr)).length=out.length:=by simp
        have hfn:aR s (g.at_++[(k:Int)])=aR s g.at_++[f]:=Nc s g.at_ e0
        have sA:∀j,j<out.length→j≠i→kT (1000000+i) 4010072 (2000000+i) 4011072 (1000000+j)=1000000+j:=fun j hj hji=>by rw[kT,bv (x:=1000000+j) byOmega byOmega,bv byOmega byOmega]
        have sB:∀j,j<out.length→j≠i→kT (1000000+i) 4010072 (2000000+i) 4011072 (2000000+j)=2000000+j:=fun j hj hji=>by rw[kT,bv (x:=2000000+j) byOmega byOmega,bv byOmega byOmega]
        have sC:kT (1000000+i) 4010072 (2000000+i) 4011072 (1000000+i)=4010072:=by rw[kT,bv (x:=1000000+i) byOmega byOmega,mD]
        have sD:kT (1000000+i) 4010072 (2000000+i) 4011072 (2000000+i)=4011072:=by rw[kT,mD,bv byOmega byOmega]
        have s0:kT (1000000+i) 4010072 (2000000+i) 4011072 0=0:=by rw[kT,bv (x:=0) byOmega byOmega,bv byOmega byOmega]
        have s1:kT (1000000+i) 4010072 (2000000+i) 4011072 3001=3001:=by rw[kT,bv (x:=3001) byOmega byOmega,bv byOmega byOmega]
        refine⟨⟨(k+1,out.set i ⟨g.policy,g.cover,g.at_++[(k:Int)]⟩),hk,h2,h4⟩,kT (1000000+i) 4010072 (2000000+i) 4011072,?_,mS⟩
        refine Nq hF s (k+1) _ _ _ (fun j=>if j=i then(4010072,4011072) else iB i j) (fun x y h=>mr (mr h)) (by rw[hlo];omega) ?_ ?_ ?_ ?_ ?_
        ·rw[hlo]
         simp[gG,jM,bf,s0,s1,dW,pF]
        ·rw[s0];rfl
        ·rw[s1,bq,if_pos rfl]
         refine congrArg (fun c=>some (Bx.mk 47 c)) ?_
         refine(Nt (o:=i*8+6) (a:= .osl 4010072 7 0 (g.at_.length+1)) (b:= .osl 4011072 1 0 (g.at_.length+1)) (by rw[hln];omega)).trans ?_
         exact BO pz (l:=out) (nm:=iB i) (o:=6) (xs:=[.osl 4010072 7 0 (g.at_.length+1),.osl 4011072 1 0 (g.at_.length+1)]) (b:=(4010072,4011072)) (y:=⟨g.policy,g.cover,g.at_++[(k:Int)]⟩) ai hg (by simp[dI,splice])
        ·intro j hj
         rw[hlo] at hj
         by_cases h:j=i
         ·rw[if_pos h,h];exact⟨sC,sD⟩
         ·rw[if_neg h,iB,if_neg h];exact⟨sA j hj h,sB j hj h⟩
        ·intro j x hj
         have hj1:=(List.getElem?_eq_some_iff.1 hj).1
         rw[hlo] at hj1
         by_cases h:j=i
         ·subst h
          rw[sC,sD]
          rw[List.getElem?_set_self hil] at hj
          injection hj with hj
          subst hj
          simp only[hfn,uK]
          exact⟨rfl,rfl⟩
         ·rw[List.getElem?_set_ne (Ne.symm h)] at hj
          rw[sA j hj1 h,sB j hj1 h]
          constructor
          ·repeat(first|rw[bq,if_neg byOmega]|rw[List.cons_append,bq,if_neg byOmega])
           exact aaL h3 hj h
          ·repeat(first|rw[bq,if_neg byOmega]|rw[List.cons_append,bq,if_neg byOmega])
           exact aaM h3 h1000 hj h
  ·refine aL ?_
   obtain rfl:k=s.files.length:=byOmega
   rw[List.drop_length] at h2
   have h2:R=(0,out):=h2.symm
   subst h2
   simp only[vT,if_pos,decide_true]
   have hol:=h3.o.l
   unfold jH gG
   refine' run tt (V.l3 fun hq=> ?_)
   refine⟨bS (F:=nP s) (fun _=>rfl) out,aaO (nm:=fun j=>(1000000+j,2000000+j)) 4 (fun g hg=>h3.fs hg) fun j g hj=> ?_⟩
   have hj1:=(List.getElem?_eq_some_iff.1 hj).1
   constructor
   ·repeat rw[bq,if_neg byOmega]
    exact BX h3 hj
   ·repeat rw[bq,if_neg byOmega]
    exact BZ h3 byOmega hj
end Go.Proofs.YtlikpcpllahalaaGreat.V
