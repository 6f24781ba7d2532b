/- Parts of the proof. -/
import Derived.Test.YtlikpcpllahalaaGreatG47
set_option maxHeartbeats 16000000
set_option linter.unusedSimpArgs false
set_option linter.unusedVariables false
namespace Go.Proofs.YtlikpcpllahalaaGreat.V
open Go.RowKit
set_option maxRecDepth 100000
attribute [local go_sem] Option.toList_some Option.toList_none Int.reduceEq Int.reduceNe
theorem MS {P:Program} {cx:Cx} {env:Env} {box:ay} {nm:Nat} {f:FuncId} {l:List AV} {o:Oper} {K:OpS→Prop} {xs:List AV} {x:AV} {hyp:Prop} (hc:bn P f) (hF:Fun P f xs x) (hx:x.flat0=true)
 (hfz:dx (fz box 6) l xs) (hK:K ⟨bY box box,x,[]⟩):bW P cx hyp env box nm f l o K:=
 fun ho=>⟨_,fun _=>CJ ho hc hF hx (iF hfz).1 fun i x y hx hy=>kY _ ((iF hfz).2 i x y hx hy),fun b x h=>nY h,by simp,hK⟩
def jZ (b:Nat) (g:Gr):List AV:=[int g.policy,int g.cover.peril,int g.cover.limit,int g.cover.agg,int g.cover.ded,int g.cover.share,.osl b 1 0 g.at_.length]
theorem vJ (b:Nat) (g:Gr):(jZ b g).length=7:=rfl
theorem MU (r:Nat→Nat) (b:Nat) (g:Gr):(jZ b g).map (AV.ren r)=jZ (r b) g:=by simp[jZ]
theorem MV {p:Nat→Bool} {b:Nat} (h:p b=true) (g:Gr):(jZ b g).all (AV.names p)=true:=by simp[jZ,h]
def grE (s:Stt) (k n:Nat):Env:=[(4,.osl 3001 7 0 n),(15,int k),(1,.ptr 0 0),(13,dW s.files),(14,int s.files.length),(2,.v (.slice none 0 0)),(3,int 0)]
def iZ (s:Stt) (k:Nat) (out:List Gr):LS:=
 ⟨grE s k out.length,(0,some ⟨32,s.flat⟩)::(3001,some ⟨128,aS jZ (fun j=>1000000+j) out⟩)::fe 3 ak 1000000 (out.map Gr.at_),4000000⟩
def BR (s:Stt) (k:Nat) (out:List Gr) (i:Nat) (g:Gr):LS:=
 ⟨grE s k out.length,(0,some ⟨32,s.flat⟩)::(3001,some ⟨128,aS jZ (fun j=>if j=i then 7 else 1000000+j) out⟩)::(7,some ⟨3,aa ak g.at_⟩)::fe 3 ak 1000000 ((out.map Gr.at_).set i []),4000000⟩
theorem qR (n:Int):(ak n).all AV.isData=true:=by simp[ak]
structure GrOk (k:Nat) (out:List Gr):Prop where
 ne:∀g,g∈out→g.at_≠ []
 l:out.length≤k
 a:∀g,g∈out→g.at_.length≤k
theorem GrOk.zero:GrOk 0 []:=⟨by simp,by simp,by simp⟩
theorem GrOk.add {k:Nat} {out:List Gr} (h:GrOk k out) (p:Int) (c:Cover) (x:Int):GrOk (k+1) (nM out p c x):=by
 unfold nM
 split
 ·split
  ·rename_i i _ g hg
   refine⟨fun q hq=> ?_,by rw[List.length_set];have:=h.l;omega,fun q hq=> ?_⟩
   ·rcases List.mem_or_eq_of_mem_set hq with hq|rfl
    ·exact h.ne q hq
    ·simp
   ·rcases List.mem_or_eq_of_mem_set hq with hq|rfl
    ·have:=h.a q hq;omega
    ·have:=h.a g (List.mem_of_getElem? hg);simp;omega
  ·exact⟨h.ne,by have:=h.l;omega,fun q hq=>by have:=h.a q hq;omega⟩
 ·refine⟨fun q hq=> ?_,by have:=h.l;simp;omega,fun q hq=> ?_⟩
  ·rw[List.mem_append,List.mem_singleton] at hq
   rcases hq with hq|rfl
   ·exact h.ne q hq
   ·simp
  ·rw[List.mem_append,List.mem_singleton] at hq
   rcases hq with hq|rfl
   ·have:=h.a q hq;omega
   ·simp
theorem aai (s:Stt) (k:Nat) (out:List Gr):ah (iZ s k out).box 0=some ⟨32,s.flat⟩:=by rw[iZ,bq,if_pos rfl]
theorem aaj (s:Stt) (k:Nat) (out:List Gr):ah (iZ s k out).box 3001=some ⟨128,aS jZ (fun j=>1000000+j) out⟩:=by rw[iZ,bq,if_neg byOmega,bq,if_pos rfl]
theorem FM (s:Stt) (k:Nat) (out:List Gr) {b:Nat} (h:1000000≤b):ah (iZ s k out).box b=ah (fe 3 ak 1000000 (out.map Gr.at_)) b:=by rw[iZ,bq,if_neg byOmega,bq,if_neg byOmega]
theorem df {b n:Nat} (h:b<n):(fun b=>decide (b<n)) b=true:=decide_eq_true h
theorem aak {cx:Cx} (hF:cx.F=fun _=>none) (s:Stt) (k:Nat) (out:List Gr) (i:Nat) (g:Gr) (hl:out.length≤1000) (hi:out[i]? =some g) (hne:∀g,g∈out→g.at_≠ []):LCut cx (cZ 7 (1000000+i)) (iZ s k out) (BR s k out i g):=by
 have hil:=(List.getElem?_eq_some_iff.1 hi).1
 have s0:cZ 7 (1000000+i) 0=0:=bv byOmega byOmega
 have s1:cZ 7 (1000000+i) 3001=3001:=bv byOmega byOmega
 have s7:cZ 7 (1000000+i) 7=1000000+i:=mD _ _
 have hg:(out.map Gr.at_)[i]? =some g.at_:=by rw[List.getElem?_map,hi];rfl
 have hgn:=hne g (List.mem_of_getElem? hi)
 have nx:(BR s k out i g).next=4000000:=rfl
 refine⟨?_,⟨⟨?_,?_,?_⟩,⟨?_,?_,?_⟩,⟨?_,?_,?_⟩,?_⟩,tF fun _ _ _ _ _ _=>mr,fun b g h=>by rw[hF] at h;cases h⟩
 ·simp[iZ,BR,grE,jM,bf,s0,s1,dW,pF]
 ·rw[s0,aai,qP (by simp[Stt.flat])]
 ·exact df byOmega
 ·exact jv (by simp[Stt.flat]) _
 ·rw[s1,aaj,o9 (q:=cZ 7 (1000000+i)) (MU _)]
  congr 2
  refine tH fun j hj=> ?_
  by_cases hji:j=i
  ·rw[if_pos hji,s7,hji]
  ·rw[if_neg hji,bv byOmega byOmega]
 ·exact df byOmega
 ·refine pg fun j x hj=>MV (df ?_) x
  split<;>omega
 ·rw[s7,FM _ _ _ byOmega,qN hg,qP (pq qR _),if_neg (by simpa using hgn)]
 ·exact df byOmega
 ·exact jv (pq qR _) _
 ·refine BP qR (fun j y hy hn=> ?_) fun b h1 h2=> ?_
  ·rw[List.getElem?_set] at hy
   by_cases hji:i=j
   ·rw[if_pos hji] at hy
    split at hy
    ·injection hy with hy;exact absurd hy.symm hn
    ·cases hy
   ·rw[if_neg hji] at hy
    rw[bv byOmega byOmega,FM _ _ _ byOmega,qN hy,if_neg (by simpa using hn)]
  ·simp only[List.length_set,List.length_map] at h2
   exact df byOmega
theorem FN {box:ay} {t:TypeId} {out:List Gr} {nm:Nat→Nat} (d:Nat) (h:∀j g,out[j]? =some g→ah box (nm j)=some ⟨3,aa ak g.at_⟩):
 aH (some ⟨t,aS jZ nm out⟩) (fz box (d+1)) 7 0 out.length (out.map Gr.flat):=by
 have hl:=qO vJ out nm
 refine⟨by rw[hl];omega,.inr ?_⟩
 rw[List.drop_zero,List.take_of_length_le (by rw[hl];omega)]
 refine FI fun i g hi=> ?_
 have hh:=h i g hi
 refine⟨rfl,rfl,rfl,rfl,rfl,rfl,?_,True.intro⟩
 exact KN d hh rfl
theorem MW {out:List Gr} (hne:∀g,g∈out→g.at_≠ []):∀j g,out[j]? =some g→ah (fe 3 ak 1000000 (out.map Gr.at_)) (1000000+j)=some ⟨3,aa ak g.at_⟩:=by
 intro j g hj
 have hg:(out.map Gr.at_)[j]? =some g.at_:=by rw[List.getElem?_map,hj];rfl
 rw[qN hg,if_neg (by simpa using hne g (List.mem_of_getElem? hj))]
theorem MX (s:Stt) (k:Nat) {out:List Gr} (hne:∀g,g∈out→g.at_≠ []):∀j g,out[j]? =some g→ah (iZ s k out).box (1000000+j)=some ⟨3,aa ak g.at_⟩:=by
 intro j g hj
 have hg:(out.map Gr.at_)[j]? =some g.at_:=by rw[List.getElem?_map,hj];rfl
 rw[FM _ _ _ byOmega,qN hg,if_neg (by simpa using hne g (List.mem_of_getElem? hj))]
theorem MZ {cx:Cx} (hF:cx.F=fun _=>none) (s:Stt) (k:Nat) (out:List Gr) (r:Nat→Nat) (A:LS) (nm:Nat→Nat) (hr:∀x y,r x=r y→x=y) (hl:out.length≤1000) (henv:jM (fun b=>decide (b<4000000)) r A.env (grE s k out.length))
 (h0:ah A.box (r 0)=some ⟨32,s.flat⟩) (h1:ah A.box (r 3001)=some ⟨128,aS jZ nm out⟩) (h2:∀j,j<out.length→r (1000000+j)=nm j)
 (h3:∀j g,out[j]? =some g→ah A.box (r (1000000+j))=some ⟨3,aa ak g.at_⟩):LCut cx r A (iZ s k out):=by
 refine⟨henv,⟨⟨?_,?_,?_⟩,⟨?_,?_,?_⟩,?_⟩,tF fun _ _ _ _ _ _ h=>hr _ _ h,fun b g h=>by rw[hF] at h;cases h⟩
 ·rw[h0,qP (by simp[Stt.flat])]
 ·exact df (by show 0<4000000;omega)
 ·exact jv (by simp[Stt.flat]) _
 ·rw[h1,o9 (q:=r) (MU _)]
  congr 2
  exact tH fun j hj=>(h2 j hj).symm
 ·exact df (by show 3001<4000000;omega)
 ·exact pg fun j x hj=>MV (df (by show 1000000+j<4000000;omega)) x
 ·refine BP qR (fun j y hy hn=> ?_) fun b h4 h5=> ?_
  ·rw[List.getElem?_map,Option.map_eq_some_iff] at hy
   obtain⟨g,hg,rfl⟩:=hy
   exact h3 j g hg
  ·rw[List.length_map] at h5
   exact df (by show b<4000000;omega)
theorem M3 {α β:Type} {F:β→α→List AV} {k:Nat} (hF:∀b x,(F b x).length=k) {nm:Nat→β} {l:List α} {o:Nat} {row xs:List AV} {b:β} {y:α} (he:splice row o xs=F b y):
 splice (aS F nm l++row) (l.length*k+o) xs=aS F (fun j=>if j=l.length then b else nm j) (l++[y]):=by
 have hl:=qO hF l nm
 rw[MO byOmega,hl,Nat.add_sub_cancel_left,he,MN,if_pos rfl]
 congr 1
 exact tH fun j hj=>by rw[if_neg byOmega]
theorem FO {out:List Gr} {p:Int} {c:Cover} {k:Int} (h:out.findIdx? (jY p c)=none):nM out p c k=out++[⟨p,c,[k]⟩]:=by rw[nM,h]
theorem FP {out:List Gr} {p:Int} {c:Cover} {k:Int} {i:Nat} {g:Gr} (h:out.findIdx? (jY p c)=some i) (hg:out[i]? =some g):nM out p c k=out.set i ⟨g.policy,g.cover,g.at_++[k]⟩:=by rw[nM,h];simp only[hg]
attribute [local go_sem] Int.reduceLT Int.reduceNeg in
theorem aal {n:Nat} {T:List Version} {s:Stt} (hn:n≤300) (hT:TSz T) (hs:Sz n T s):Fun Tryz.prog 37 [.agg s.flat] (.tup [BQ (eO s).2,int (eO s).1]):=by
 have hfl:=hs.fil
 have hal:=hs.acc
 generalize hGX:eO s=R
 refine af Tryz.func37 fun cx hN hR hF hL=> ?_
 refine' run tt (V.l1 ?_)
 refine rH 4 3001 7 128 rfl (Nat.le_of_ble_eq_true rfl) ?_
 refine Jf (σ:={q:Nat×List Gr // q.1≤s.files.length∧kR s q.1 q.2 (s.files.drop q.1)=R∧GrOk q.1 q.2}) (fun q=>iZ s q.1.1 q.1.2) (fun q=>s.files.length-q.1.1) id ⟨(0,[]),by omega,hGX,GrOk.zero⟩ ?_ ?_
 ·simp only[go_sem,↓reduceIte,hF,iZ,grE,aS,fe,List.map_nil]
  all_goals rfl
 ·rintro⟨⟨k,out⟩,h1,h2,h3⟩
  simp only at h1 h2 h3 ⊢
  by_cases hk:k<s.files.length
  ·have e1:(s.files.map File.flat)[k]? =some (s.files[k].flat):=by rw[List.getElem?_map,List.getElem?_eq_getElem hk];rfl
   have e2:=wS k
   rw[List.drop_eq_getElem_cons hk,kR] at h2
   have ka:=Fe s s.files[k].claim.policy byOmega
   have hcv:vI s s.files[k]=dZ (s.his s.files[k].claim.policy) s.tariff s.files[k].claim:=rfl
   have hcz:= @FK (s.his s.files[k].claim.policy) s.tariff s.files[k].claim
   generalize s.files[k]=f at *
   rw[hcv] at h2
   cases ha:s.acct f.claim.policy with
   |none=>
    rw[ha] at ka
    have hz:= @MR s.tariff f.claim
    have kc:=yn bg s.tariff f.claim ⟨⟨by simp[bg],by simp[bg,fG],by simp[bg]⟩,hs.tr▸hT.t,hs.tr▸hT.v⟩ (by have:=EK (h:=bg) (T:=s.tariff) (b:=f.claim.booked);simp[bg] at this;simp[bg];omega)
     (fun x hx=>by have:=FC (n:=50) (h:=bg) (by simp[bg,fG]) (by simp[bg]) x hx;omega)
    rw[FJ] at kc
    have hh:s.his f.claim.policy=bg:=by unfold Stt.his;rw[ha]
    rw[hh] at h2 hcz
    generalize dZ bg s.tariff f.claim=X at *
    obtain⟨e,o⟩:=X
    simp only at hz
    subst hz
    have he:e≠0:=hcz.1 rfl
    simp only at h2
    subst h2
    simp only[qF,bu] at kc
    simp only[oZ] at ka
    refine aL ?_
    unfold iZ grE
    (repeat' first|focus ((try(revert K;refine bK ?_));refine' aj (I e1 (I e2 (I (eq_false he) (decide_eq_false he)))) ka ?_;(repeat' first|exact tt|apply lv|(apply oK;intro K hK)|intro hq);all_goals apply lf)|(with_reducible apply aU [] HV (kc);(case hy|hl|hk=>(simp only[go_sem,↓reduceIte];try with_unfolding_all rfl));(case hz=>(with_unfolding_all simp[go_sem,aH,e1,e2,eq_false he,decide_eq_false he];done))))
   |some a=>
    rw[ha] at ka
    have hma:a∈s.acc:=List.mem_of_find?_eq_some ha
    have hco:=hs.cov hn hT hma f.claim
    have kc:=yn a.h s.tariff f.claim hco.s hco.l hco.q
    have hh:s.his f.claim.policy=a.h:=by unfold Stt.his;rw[ha]
    rw[hh] at h2 hcz
    generalize dZ a.h s.tariff f.claim=X at *
    obtain⟨e,o⟩:=X
    simp only[oZ] at ka
    cases o with
    |none=>
     have he:e≠0:=hcz.1 rfl
     simp only at h2
     subst h2
     simp only[qF,bu] at kc
     refine aL ?_
     unfold iZ grE
     exact aj (I e1 (I e2 (I (eq_false he) (decide_eq_false he)))) (I ka kc) tt
    |some q=>
     have he:e=0:=by
      by_cases h:e=0
      ·exact h
      ·exact absurd (hcz.2 h) ai
     subst he
     simp only at h2
     simp only[qF] at kc
     have kx:=aag (g:=78) (caps:=[.pp f.flat,.pp q.flat]) (p:=jY f.claim.policy q) (fun x=>aah x f q) PR ai out (by have:=h3.l;omega)
     rw[kM] at kx
     have hgt:=MX s k h3.ne
     cases hx:out.findIdx? (jY f.claim.policy q) with
     |none=>
      rw[hx] at kx
      simp only at kx
      refine aL ?_
      unfold iZ grE
      refine' aj (I e1 e2) (I ka kc) (lv (fun hq=>fun hq=>o4 fun K hK=> ?_) tt)
      refine MS H5 kx (by simp[AV.flat0]) ⟨?_,?_,True.intro⟩ ?_
      ·rw[uq]
       refine⟨⟨rfl,rfl,by omega,by simp,bS (F:=Gr.flat) (fun _=>rfl) out⟩,?_⟩
       refine FN (nm:=fun j=>1000000+j) (out:=out) 4 fun j g hj=> ?_
       have hj1:=(List.getElem?_eq_some_iff.1 hj).1
       have hj2:=h3.l
       repeat rw[bq,if_neg byOmega]
       exact MW h3.ne j g hj
      ·simp[go_sem,aH]
      generalize bY _=LV
      have hln:=qO vJ out (fun j=>1000000+j)
      have e9:(aS jZ (fun j=>1000000+j) out++[int f.claim.policy,int q.peril,int q.limit,int q.agg,int q.ded,int q.share,.v (.slice none 0 0)])[out.length*7+6]? =some (.v (.slice none 0 0)):=by
       rw[List.getElem?_append_right byOmega,hln,Nat.add_sub_cancel_left];rfl
      have hol:=h3.l
      (revert K;refine bK ?_;refine' aj (I e1 (I e2 (I e9 hln))) (I ka kc) (lv (fun hq=>lf ?_) (lv (fun hq=>o4 fun K hK=> ?_) (lv (fun hq=>o4 fun K hK=> ?_) (lv (fun hq=>o4 fun K hK=> ?_) tt)))))
      all_goals first|(simp[maxLen];done)|(simp[maxLen];omega)|skip
      rw[FO hx] at h2
      have hlo:(out++[(⟨f.claim.policy,q,[(k:Int)]⟩:Gr)]).length=out.length+1:=by simp
      have hrj:∀j,j<out.length→cZ 3001 4008056 (cZ (1000000+out.length) 4009072 (1000000+j))=1000000+j:=fun j hj=>by rw[bv (x:=1000000+j) byOmega byOmega,bv byOmega byOmega]
      have hrn:cZ 3001 4008056 (cZ (1000000+out.length) 4009072 (1000000+out.length))=4009072:=by rw[mD,bv byOmega byOmega]
      have hr0:cZ 3001 4008056 (cZ (1000000+out.length) 4009072 0)=0:=by rw[bv (x:=0) byOmega byOmega,bv byOmega byOmega]
      have hr1:cZ 3001 4008056 (cZ (1000000+out.length) 4009072 3001)=4008056:=by rw[bv (x:=3001) byOmega byOmega,mD]
      refine⟨⟨(k+1,out++[⟨f.claim.policy,q,[(k:Int)]⟩]),hk,h2,FO hx▸h3.add f.claim.policy q k⟩,fun x=>cZ 3001 4008056 (cZ (1000000+out.length) 4009072 x),?_,mS⟩
      refine MZ hF s (k+1) _ _ _ (fun j=>if j=out.length then 4009072 else 1000000+j) (fun x y h=>mr (mr h)) (by rw[hlo];omega) ?_ ?_ ?_ ?_ ?_
      ·rw[hlo]
       simp[grE,jM,bf,hr0,hr1,dW,pF]
      ·rw[hr0];rfl
      ·rw[hr1,bq,if_pos rfl]
       exact congrArg (fun c=>some (Bx.mk 128 c)) (M3 vJ (l:=out) (nm:=fun j=>1000000+j) (o:=6) (xs:=[.osl 4009072 1 0 1]) (b:=4009072) (y:=⟨f.claim.policy,q,[(k:Int)]⟩) rfl)
      ·intro j hj
       rw[hlo] at hj
       by_cases h:j=out.length
       ·rw[if_pos h,h,hrn]
       ·rw[if_neg h,hrj j byOmega]
      ·intro j g hj
       have hj1:=(List.getElem?_eq_some_iff.1 hj).1
       rw[hlo] at hj1
       by_cases h:j=out.length
       ·subst h
        rw[hrn]
        rw[List.getElem?_append_right (Nat.le_refl _),Nat.sub_self] at hj
        injection hj with hj
        subst hj
        rfl
       ·rw[List.getElem?_append_left byOmega] at hj
        rw[hrj j byOmega]
        repeat rw[bq,if_neg byOmega]
        exact MW h3.ne j g hj
     |some i=>
      obtain⟨g,hg,hgi,-⟩:=lQ hx
      rw[hx] at kx
      simp only[Int.zero_add] at kx
      have hil:=(List.getElem?_eq_some_iff.1 hg).1
      have hol:=h3.l
      have hgl:=h3.a g (List.mem_of_getElem? hg)
      rw[FP hx hg] at h2
      refine oq _ _ (aak hF s k out i g byOmega hg h3.ne) ?_
      refine aL ?_
      unfold BR grE
      refine' aj (I e1 e2) (I ka kc) (lv (fun hq=>fun hq=>o4 fun K hK=> ?_) tt)
      have hgj:∀j x,out[j]? =some x→j≠i→ah (fe 3 ak 1000000 ((out.map Gr.at_).set i [])) (1000000+j)=some ⟨3,aa ak x.at_⟩:=fun j x hj hji=>by
       have hxx:((out.map Gr.at_).set i [])[j]? =some x.at_:=by rw[List.getElem?_set_ne (Ne.symm hji),List.getElem?_map,hj];rfl
       rw[qN hxx,if_neg (by simpa using h3.ne x (List.mem_of_getElem? hj))]
      refine MS H5 kx (by simp[AV.flat0]) ⟨?_,?_,True.intro⟩ ?_
      ·rw[uq]
       refine⟨⟨rfl,rfl,by omega,by simp,bS (F:=Gr.flat) (fun _=>rfl) out⟩,?_⟩
       refine FN (nm:=fun j=>if j=i then 7 else 1000000+j) (out:=out) 4 fun j x hj=> ?_
       have hj1:=(List.getElem?_eq_some_iff.1 hj).1
       by_cases h:j=i
       ·subst h
        rw[hg] at hj
        injection hj with hj
        subst hj
        rw[if_pos rfl]
        rfl
       ·rw[if_neg h]
        repeat rw[bq,if_neg byOmega]
        exact hgj j x hj h
      ·simp[go_sem,aH]
      generalize bY _=LV
      have hln:=qO vJ out (fun j=>if j=i then 7 else 1000000+j)
      have e9:(aS jZ (fun j=>if j=i then 7 else 1000000+j) out)[i*7+6]? =some (.osl 7 1 0 g.at_.length):=by
       rw[BN vJ hg byOmega,if_pos rfl];rfl
      have b1:((i:Int)<0)=False:=eF
      have hrl:(aa ak g.at_).length=g.at_.length:=by have:=dU (F:=ak) (k:=1) (fun _=>rfl) g.at_;omega
      (revert K;refine bK ?_;refine' aj (I e1 (I e2 (I e9 (I hln (I hrl (I b1 (decide_eq_false (of_eq_false b1)))))))) (I ka kc) (lv (fun hq=>lf ?_) (lv (fun hq=>o4 fun K hK=> ?_) (lv (fun hq=>o4 fun K hK=> ?_) tt))))
      all_goals first|(simp[maxLen];done)|(simp[maxLen];omega)|(intro h;rw[h] at hln;simp at hln;omega)|skip
      have hlo:(out.set i (⟨g.policy,g.cover,g.at_++[(k:Int)]⟩:Gr)).length=out.length:=by simp
      have hrj:∀j,j<out.length→j≠i→cZ (1000000+i) 4007072 (1000000+j)=1000000+j:=fun j hj hji=>by rw[bv byOmega byOmega]
      have hri:cZ (1000000+i) 4007072 (1000000+i)=4007072:=mD _ _
      have hr0:cZ (1000000+i) 4007072 0=0:=bv byOmega byOmega
      have hr1:cZ (1000000+i) 4007072 3001=3001:=bv byOmega byOmega
      refine⟨⟨(k+1,out.set i ⟨g.policy,g.cover,g.at_++[(k:Int)]⟩),hk,h2,FP hx hg▸h3.add f.claim.policy q k⟩,cZ (1000000+i) 4007072,?_,mS⟩
      refine MZ hF s (k+1) _ _ _ (fun j=>if j=i then 4007072 else if j=i then 7 else 1000000+j) (fun x y h=>mr h) (by rw[hlo];omega) ?_ ?_ ?_ ?_ ?_
      ·rw[hlo]
       simp[grE,jM,bf,hr0,hr1,dW,pF]
      ·rw[hr0];rfl
      ·rw[hr1,bq,if_pos rfl]
       exact congrArg (fun c=>some (Bx.mk 128 c)) (BO vJ (l:=out) (nm:=fun j=>if j=i then 7 else 1000000+j) (o:=6) (xs:=[.osl 4007072 1 0 (g.at_.length+1)]) (b:=4007072) (y:=⟨g.policy,g.cover,g.at_++[(k:Int)]⟩) ai hg (by simp[jZ,splice]))
      ·intro j hj
       rw[hlo] at hj
       by_cases h:j=i
       ·rw[if_pos h,h,hri]
       ·rw[if_neg h,if_neg h,hrj j hj h]
      ·intro j x hj
       have hj1:=(List.getElem?_eq_some_iff.1 hj).1
       rw[hlo] at hj1
       by_cases h:j=i
       ·subst h
        rw[hri]
        rw[List.getElem?_set_self hil] at hj
        injection hj with hj
        subst hj
        rw[bq,if_neg byOmega,bq,if_neg byOmega,bq,if_pos rfl,uK]
        rfl
       ·rw[List.getElem?_set_ne (Ne.symm h)] at hj
        rw[hrj j hj1 h]
        repeat rw[bq,if_neg byOmega]
        exact hgj j x hj h
  ·refine aL ?_
   obtain rfl:k=s.files.length:=byOmega
   have hgt:=MX s s.files.length h3.ne
   rw[List.drop_length] at h2
   have h2:R=(0,out):=h2.symm
   subst h2
   unfold iZ grE
   refine' run tt (V.l3 fun hq=> ?_)
   exact⟨bS (F:=Gr.flat) (fun _=>rfl) out,FN 4 hgt⟩
end Go.Proofs.YtlikpcpllahalaaGreat.V
