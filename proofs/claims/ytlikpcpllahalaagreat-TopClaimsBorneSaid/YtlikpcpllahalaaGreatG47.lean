/- Parts of the proof. -/
import Derived.Test.YtlikpcpllahalaaGreatG46
set_option maxHeartbeats 16000000
set_option linter.unusedSimpArgs false
set_option linter.unusedVariables false
namespace Go.Proofs.YtlikpcpllahalaaGreat.V
open Go.RowKit
set_option maxRecDepth 100000
section
attribute [local go_sem] Option.toList_some Option.toList_none Int.reduceEq Int.reduceNe
def tJ (f:Fact):Bool:=decide ((f.terms.covers.length:Int)≤50)&&decide ((f.change.covers.length:Int)≤50)
theorem aae (f:Fact):Fun Tryz.prog 68 [.agg f.flat] (bool (tJ f)):=by
 unfold tJ
 refine af Tryz.func68 fun cx hN hR hF hL=> ?_
 exact run tt tt
theorem FJ:bg.flat=[int 0,int 0,int 0,int 0,int 0,int 0,int 0,int 0,dz [],jg []]:=rfl
def qQ (j:Journal) (m:Int):Bool:=kQ bg j.tariff&&decide ((j.facts.length:Int)≤m)&&j.facts.all tJ
theorem MP (j:Journal) (m:Int) (hl:j.facts.length≤1000000000000):Fun Tryz.prog 27 [.agg j.flat,int m] (bool (qQ j m)):=by
 have k:=aaa bg j.tariff
 rw[FJ] at k
 unfold qQ
 cases h1:kQ bg j.tariff with
 |false=>
  rw[h1] at k
  refine af Tryz.func27 fun cx hN hR hF hL=> ?_
  (repeat' first|focus ((try(revert K;refine bK ?_));refine' run tt ?_;(repeat' first|exact tt|apply lv|(apply oK;intro K hK)|intro hq);all_goals apply lf)|(with_reducible apply aU [] C8 (k);(case hy|hl|hk=>(simp only[go_sem,↓reduceIte];try with_unfolding_all rfl));(case hz=>(with_unfolding_all simp[go_sem,aH];done))))
 |true=>
  rw[h1] at k
  by_cases h2:(j.facts.length:Int)≤m
  ·rw[decide_eq_true h2]
   simp only[Bool.true_and]
   refine af Tryz.func27 fun cx hN hR hF hL=> ?_
   have c2:(m<(j.facts.length:Int))=False:=eF
   (repeat' first|focus ((try(revert K;refine bK ?_));refine' run (I c2 (decide_eq_false (of_eq_false c2))) ?_;(repeat' first|exact tt|apply lv|(apply oK;intro K hK)|intro hq);all_goals apply lf)|(with_reducible apply aU [] C8 (k);(case hy|hl|hk=>(simp only[go_sem,↓reduceIte];try with_unfolding_all rfl));(case hz=>(with_unfolding_all simp[go_sem,aH,c2,decide_eq_false (of_eq_false c2)];done))))
   refine aX (σ:={i:Nat // i≤j.facts.length∧(j.facts.drop i).all tJ=j.facts.all tJ}) (fun s=>⟨[(6,int s.1),(2,.ptr 0 0)],[(0,some ⟨27,j.flat⟩)],4000⟩) (fun s=>j.facts.length-s.1) id ⟨0,by omega,by simp⟩ ?_ ?_
   ·simp only[go_sem,↓reduceIte,hF]
    all_goals rfl
   ·rintro⟨i,h3,h4⟩
    simp only
    by_cases hi:i<j.facts.length
    ·have e1:(j.facts.map Fact.flat)[i]? =some (j.facts[i].flat):=by rw[List.getElem?_map,List.getElem?_eq_getElem hi];rfl
     have e2:=wS i
     rw[List.drop_eq_getElem_cons hi,List.all_cons] at h4
     have kf:=aae j.facts[i]
     generalize j.facts[i]=f at *
     cases h5:tJ f with
     |true=>
      rw[h5] at kf h4
      refine' aj (I e1 e2) kf (lv (fun hq=>fun hq=>lf ?_) tt)
      refine⟨⟨i+1,hi,by simpa using h4⟩,id,?_,mS⟩
      simp only[go_sem,↓reduceIte,hF]
     |false=>
      rw[h5] at kf h4
      refine' aj (I e1 e2) kf (lv (fun hq=>fun hq=>lf ?_) tt)
      rw[←h4];rfl
    ·obtain rfl:i=j.facts.length:=byOmega
     rw[List.drop_length] at h4
     refine' run tt (V.l3 fun hq=> ?_)
     rw[←h4];rfl
  ·rw[decide_eq_false h2]
   have c2:(m<(j.facts.length:Int))=True:=eT
   refine af Tryz.func27 fun cx hN hR hF hL=> ?_
   (repeat' first|focus ((try(revert K;refine bK ?_));refine' run (I c2 (decide_eq_true (of_eq_true c2))) ?_;(repeat' first|exact tt|apply lv|(apply oK;intro K hK)|intro hq);all_goals apply lf)|(with_reducible apply aU [] C8 (k);(case hy|hl|hk=>(simp only[go_sem,↓reduceIte];try with_unfolding_all rfl));(case hz=>(with_unfolding_all simp[go_sem,aH,c2,decide_eq_true (of_eq_true c2)];done))))
theorem MQ {j:Journal} {m:Int} (h:qQ j m=true):TSz j.tariff∧(j.facts.length:Int)≤m∧∀f,f∈j.facts→FSz f:=by
 unfold qQ at h
 simp only[Bool.and_eq_true,decide_eq_true_eq] at h
 obtain⟨⟨h1,h2⟩,h3⟩:=h
 have h4:=(Z9 h1).1
 refine⟨⟨h4.2.1,h4.2.2⟩,h2,fun f hf=> ?_⟩
 have:=List.all_eq_true.1 h3 f hf
 unfold tJ at this
 simp only[Bool.and_eq_true,decide_eq_true_eq] at this
 exact⟨by omega,by omega⟩
theorem aaf (j:Journal) (on:Int) (hl:j.facts.length≤300) (hT:TSz j.tariff) (hf:∀f,f∈j.facts→FSz f):Fun Tryz.prog 28 [.agg j.flat,int on] (.tup [.agg (lT on ⟨j.tariff,[],[],[],0⟩ j.facts).flat,int 0]):=by
 have c1:(2000<(j.facts.length:Int))=False:=eF
 have kn:=aac j.tariff
 have hz:=fun i hi=>Sz.of (T:=j.tariff) (on:=on) hf i hi
 refine af Tryz.func28 fun cx hN hR hF hL=> ?_
 refine' aj (I c1 (I (decide_eq_false (of_eq_false c1)) ((@gt_iff_lt Int _)))) kn (V.l3 fun hq=> ?_)
 refine aX (σ:={i:Nat // i≤j.facts.length}) (fun s=>⟨[(22,int s.1),(1,int on),(4,.ptr 8 0),(6,.ptr 2024 0),(20,facts j.facts),(21,int j.facts.length),(5,int 0)],[(2024,some ⟨32,(lT on ⟨j.tariff,[],[],[],0⟩ (j.facts.take s.1)).flat⟩),(8,some ⟨32,[.v (.slice none 0 0),.v (.slice none 0 0),.v (.slice none 0 0),.v (.slice none 0 0),int 0]⟩)],5000⟩) (fun s=>j.facts.length-s.1) id ⟨0,by omega⟩ ?_ ?_
 ·simp only[go_sem,↓reduceIte,hF]
  exact⟨rfl,rfl⟩
 ·rintro⟨i,h3⟩
  simp only
  by_cases hi:i<j.facts.length
  ·have e1:(j.facts.map Fact.flat)[i]? =some (j.facts[i].flat):=by rw[List.getElem?_map,List.getElem?_eq_getElem hi];rfl
   have e2:=wS i
   have e3:j.facts.take (i+1)=j.facts.take i++[j.facts[i]]:=yc hi
   have hs:=hz i byOmega
   have hfi:=hf _ (List.getElem_mem hi)
   have kd:=aab byOmega hT hs hfi
   have hsn:=FB on ⟨j.tariff,[],[],[],0⟩ (j.facts.take i) j.facts[i]
   generalize j.facts[i]=f at *
   generalize lT on ⟨j.tariff,[],[],[],0⟩ (j.facts.take i)=S at *
   by_cases h5:on<f.booked
   ·rw[if_pos h5] at hsn
    refine' aj (I e1 (I e2 (I (eq_true h5) (I (decide_eq_true h5) ((@gt_iff_lt Int _)))))) kd (lv (fun hq=>fun hq=>lf ?_) tt)
    refine⟨⟨i+1,hi⟩,id,?_,mS⟩
    simp only[e3,hsn]
    simp only[go_sem,↓reduceIte,hF]
   ·rw[if_neg h5] at hsn
    unfold doX at hsn
    unfold fP at kd
    by_cases h6:lS S f=0
    ·rw[if_pos h6] at hsn kd
     rw[h6] at kd
     generalize (bP S f).1=S' at *
     refine' aj (I e1 (I e2 (I (eq_false h5) (I (decide_eq_false h5) ((@gt_iff_lt Int _)))))) kd (lv (fun hq=>fun hq=>fun hq=>lf ?_) tt)
     refine⟨⟨i+1,hi⟩,id,?_,mS⟩
     simp only[e3,hsn]
     simp only[go_sem,↓reduceIte,hF]
    ·rw[if_neg h6] at hsn kd
     generalize lS S f=e at *
     refine' aj (I e1 (I e2 (I (eq_false h5) (I (decide_eq_false h5) (I (@gt_iff_lt Int _) (I (eq_false h6) (decide_eq_false h6))))))) kd (lv (fun hq=>fun hq=>fun hq=>lf ?_) tt)
     refine⟨⟨i+1,hi⟩,id,?_,mS⟩
     simp only[e3,hsn]
     simp only[go_sem,↓reduceIte,hF]
  ·obtain rfl:i=j.facts.length:=byOmega
   rw[List.take_length]
   exact run tt tt
end
section
attribute [local go_sem] Option.toList_some Option.toList_none Int.reduceEq Int.reduceNe
structure Gr where
 policy:Int
 cover:Cover
 at_:List Int
@[go_sem] def Gr.flat (g:Gr):List AV:=[int g.policy,int g.cover.peril,int g.cover.limit,int g.cover.agg,int g.cover.ded,int g.cover.share,ints g.at_]
abbrev BQ (l:List Gr):AV:= .sl false 7 (l.map Gr.flat)
def jY (p:Int) (c:Cover) (g:Gr):Bool:=decide (g.policy=p)&&decide (g.cover=c)
def nM (out:List Gr) (p:Int) (c:Cover) (k:Int):List Gr:=match out.findIdx? (jY p c) with
 |some i=>match out[i]? with
  |some g=>out.set i ⟨g.policy,g.cover,g.at_++[k]⟩
  |none=>out
 |none=>out++[⟨p,c,[k]⟩]
def Stt.his (s:Stt) (id:Int):History:=match s.acct id with
 |some a=>a.h
 |none=>bg
def vI (s:Stt) (f:File):Int×Option Cover:=dZ (s.his f.claim.policy) s.tariff f.claim
def kR (s:Stt):Nat→List Gr→List File→Int×List Gr
 |_,out,[]=>(0,out)
 |k,out,f::l=>match vI s f with
  |(_,some c)=>kR s (k+1) (nM out f.claim.policy c k) l
  |(e,none)=>(e,[])
def eO (s:Stt):Int×List Gr:=kR s 0 [] s.files
theorem FK {h:History} {T:List Version} {c:Claim}:((dZ h T c).2=none↔(dZ h T c).1≠0):=by
 unfold dZ
 split
 ·split
  ·split
   ·split
    ·split
     ·split
      ·split<;>simp
      ·simp
     ·simp
    ·simpa
   ·simp
  ·simp
 ·simp
theorem MR {T:List Version} {c:Claim}:(dZ bg T c).2=none:=by
 unfold dZ
 split
 ·rename_i h
  split
  ·rw[if_neg]
   intro hp
   unfold Claim.right vg at h
   simp only[Bool.and_eq_true,decide_eq_true_eq] at h
   have:c.policy=0:=hp
   omega
  ·rfl
 ·rfl
theorem aag {g:FuncId} {caps:List AV} {p:Gr→Bool} (hg:∀x:Gr,Fun Tryz.prog g (.agg x.flat::caps) (bool (p x))) (hc:bn Tryz.prog g) (hd:caps.all AV.isData=true) (l:List Gr) (hl:l.length≤100000):
 Fun Tryz.prog 77 [.sl false 7 (l.map Gr.flat),.fn (.func g) [] caps] (int (dY p 0 l)):=by
 refine af Tryz.func77 fun cx hN hR hF hL=> ?_
 have hcr:=su hd
 have hcn:=jv hd
 refine' run tt (V.l1 ?_)
 refine aX (σ:={i:Nat // i≤l.length∧dY p 0 l=dY p i (l.drop i)}) (fun s=>⟨[(8,int s.1),(7,int l.length),(4,int 0),(1,.fn (.func g) [] caps),(0,.sl false 7 (l.map Gr.flat))],[],3000⟩) (fun s=>l.length-s.1) id ⟨0,by omega,rfl⟩ ?_ ?_
 ·simp only[go_sem,↓reduceIte,hF,hcr,hcn]
  all_goals rfl
 ·rintro⟨i,h1,h2⟩
  simp only at h1 h2 ⊢
  by_cases hi:i<l.length
  ·have e1:(l.map Gr.flat)[i]? =some l[i].flat:=by rw[List.getElem?_map,List.getElem?_eq_getElem hi];rfl
   have e2:=wS i
   have b0:((i:Int)<(l.length:Int))=True:=eT
   rw[List.drop_eq_getElem_cons hi,dY] at h2
   have hg1:=hg l[i]
   generalize l[i]=x at *
   refine' run (I b0 (I (decide_eq_true (of_eq_true b0)) (I e1 e2))) (lv (fun hq=>o4 fun K hK=> ?_) tt)
   refine bR hc hg1 (by rw[List.all_cons,hd];simp[Gr.flat]) ?_
   cases hp:p x
   ·rw[hp,if_neg ai] at h2
    (revert K;refine bK ?_;refine' run e2 (V.l3 fun hq=> ?_))
    refine⟨⟨i+1,hi,h2⟩,id,?_,mS⟩
    simp only[go_sem,↓reduceIte,hF,hcr,hcn]
   ·rw[hp,if_pos rfl] at h2
    (revert K;refine bK ?_;exact run e2 tt)
    all_goals(rw[h2])
  ·obtain rfl:i=l.length:=byOmega
   have b9:((l.length:Int)<(l.length:Int))=False:=eF
   rw[List.drop_length] at h2
   rw[h2]
   refine' run (I b9 (decide_eq_false (of_eq_false b9))) (V.l3 fun hq=> ?_)
   all_goals rfl
theorem FL {a b:Cover}:([a.peril,a.limit,a.agg,a.ded,a.share]=[b.peril,b.limit,b.agg,b.ded,b.share])=(a=b):=by
 apply propext
 constructor
 ·intro h
  cases a;cases b
  simp_all
 ·rintro rfl;rfl
theorem aah (g:Gr) (f:File) (c:Cover):Fun Tryz.prog 78 [.agg g.flat,.pp f.flat,.pp c.flat] (bool (jY f.claim.policy c g)):=by
 unfold jY
 refine af Tryz.func78 fun cx hN hR hF hL=> ?_
 refine' run tt (V.l1 ?_)
 simp only[FL]
end
end Go.Proofs.YtlikpcpllahalaaGreat.V
