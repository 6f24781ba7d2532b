/- Parts of the proof. -/
import Derived.Test.YtlikpcpllahalaaGreatG39
import Derived.Test.YtlikpcpllahalaaGreatG25
import Derived.Maps.OwnSet
import Derived.OwnWalk
set_option maxHeartbeats 16000000
set_option linter.unusedSimpArgs false
set_option linter.unusedVariables false
namespace Go.Proofs.YtlikpcpllahalaaGreat.V
open Go.RowKit
set_option maxRecDepth 100000
section
attribute [local go_sem] Option.toList_some Option.toList_none Int.reduceEq Int.reduceNe
open Classical in
noncomputable def sK (h:History) (T:List Version):Int×Int:=if k:HOk h T then⟨(E5 h T k).choose,(E5 h T k).choose_spec.choose⟩ else(0,0)
theorem Mg {h:History} {T:List Version} (k:HOk h T):Fun Tryz.prog 52 [.agg h.flat,.agg [dh T]] (.tup [int (sK h T).1,int (sK h T).2]):=by
 unfold sK
 rw[dif_pos k]
 exact(E5 h T k).choose_spec.choose_spec
structure TOk (T:List Version):Prop where
 t:T.length≤100000
 v:∀v,v∈T→v.age.length≤100000∧v.zone.length≤100000∧v.peril.length≤100000
theorem YA (a:Acct):Fun Tryz.prog 279 [.agg a.flat] (int a.h.id):=by
 refine af Tryz.func279 fun cx hN hR hF hL=> ?_
 exact run tt tt
theorem YB (a:File):Fun Tryz.prog 296 [.agg a.flat] (int a.claim.id):=by
 refine af Tryz.func296 fun cx hN hR hF hL=> ?_
 exact run tt tt
def yu (f:Fact):Int:=qf f.id f.booked f.terms
noncomputable def BI (s:Stt) (f:Fact):Int:=if yu f=0 then(sK (l5 f.id f.booked f.terms) s.tariff).2 else yu f
noncomputable def sM (s:Stt) (f:Fact):Stt×Int:=match s.acc.findIdx? (fun a:Acct=>decide (a.h.id=f.id)) with
 |some _=>(s,8)
 |none=>if 2000≤s.acc.length then(s,2) else(⟨s.tariff,BC (fun a=>a.h.id) s.acc ⟨l5 f.id f.booked f.terms,0⟩,s.files,s.tre,s.closed⟩,BI s f)
theorem YC (f:Fact) {T:List Version} (hT:TOk T) (hc:f.terms.covers.length≤100000):HOk (l5 f.id f.booked f.terms) T:=by
 unfold l5
 split
 ·exact⟨by simp,hc,by simp,hT.t,hT.v⟩
 ·exact⟨by simp[bg],by simp[bg,fG],by simp[bg],hT.t,hT.v⟩
attribute [local go_sem] Int.reduceLE Int.reduceNeg in
theorem YD (s:Stt) (f:Fact) (hT:TOk s.tariff) (hc:f.terms.covers.length≤100000) (hl:s.acc.length≤100000):Fun Tryz.prog 276 [.agg f.flat,.agg s.flat] (dM (sM s f)):=by
 have k:=BG s f.id hl
 unfold Stt.acctAt at k
 rw[kM] at k
 unfold sM
 cases hx:s.acc.findIdx? (fun a:Acct=>decide (a.h.id=f.id)) with
 |some i=>
  rw[hx] at k
  simp only[Int.zero_add] at k
  have b1:(0≤(i:Int))=True:=eT
  simp only[dM]
  refine af Tryz.func276 fun cx hN hR hF hL=> ?_
  exact aj (I b1 (I (decide_eq_true (of_eq_true b1)) ((@ge_iff_le Int _)))) k tt
 |none=>
  rw[hx] at k
  simp only
  by_cases h2:2000≤s.acc.length
  ·rw[if_pos h2,dM]
   have b2:(2000≤(s.acc.length:Int))=True:=eT
   refine af Tryz.func276 fun cx hN hR hF hL=> ?_
   exact aj (I b2 (I (decide_eq_true (of_eq_true b2)) ((@ge_iff_le Int _)))) k tt
  ·rw[if_neg h2,dM]
   have b2:(2000≤(s.acc.length:Int))=False:=eF
   have kb:=TR f.id f.booked f.terms hc
   have kd:=Mg (YC f hT hc)
   have kp:=W9 (fun a:Acct=>a.h.id) YA Qb s.acc ⟨l5 f.id f.booked f.terms,0⟩ hl
   unfold BI yu
   by_cases h3:qf f.id f.booked f.terms=0
   ·rw[if_pos h3]
    rw[h3] at kb
    refine af Tryz.func276 fun cx hN hR hF hL=> ?_
    exact aj (I b2 (I (decide_eq_false (of_eq_false b2)) ((@ge_iff_le Int _)))) (I k (I kb (I kd kp))) tt
   ·rw[if_neg h3]
    refine af Tryz.func276 fun cx hN hR hF hL=> ?_
    exact aj (I b2 (I (decide_eq_false (of_eq_false b2)) (I (@ge_iff_le Int _) (I (eq_false h3) (decide_eq_false h3))))) (I k (I kb kp)) tt
structure CovOk (h:History) (T:List Version) (c:Claim):Prop where
 s:Small h T
 l:(kS h T c.booked).length≤1000000
 q:∀s,s∈kS h T c.booked→s.st.covers.length≤1000000
def sN (s:Stt) (f:Fact):Stt×Int:=match s.files.findIdx? (fun a:File=>decide (a.claim.id=f.claim.id)) with
 |some _=>(s,8)
 |none=>if 2000≤s.files.length then(s,2) else match s.acct f.claim.policy with
  |none=>(s,7)
  |some a=>(⟨s.tariff,s.acc,BD (fun a=>a.claim.id) s.files ⟨f.claim,[]⟩,s.tre,s.closed⟩,(dZ a.h s.tariff f.claim).1)
attribute [local go_sem] Int.reduceLE Int.reduceNeg in
theorem YE (s:Stt) (f:Fact) (hl:s.acc.length≤100000) (hf:s.files.length≤100000) (hc:∀a,a∈s.acc→CovOk a.h s.tariff f.claim):Fun Tryz.prog 293 [.agg f.flat,.agg s.flat] (dM (sN s f)):=by
 have k:=LZ s f.claim.id hf
 unfold Stt.fileAt at k
 rw[kM] at k
 unfold sN
 cases hx:s.files.findIdx? (fun a:File=>decide (a.claim.id=f.claim.id)) with
 |some i=>
  rw[hx] at k
  simp only[Int.zero_add] at k
  have b1:(0≤(i:Int))=True:=eT
  simp only[dM]
  refine af Tryz.func293 fun cx hN hR hF hL=> ?_
  exact aj (I b1 (I (decide_eq_true (of_eq_true b1)) ((@ge_iff_le Int _)))) k tt
 |none=>
  rw[hx] at k
  simp only
  by_cases h2:2000≤s.files.length
  ·rw[if_pos h2,dM]
   have b2:(2000≤(s.files.length:Int))=True:=eT
   refine af Tryz.func293 fun cx hN hR hF hL=> ?_
   exact aj (I b2 (I (decide_eq_true (of_eq_true b2)) ((@ge_iff_le Int _)))) k tt
  ·rw[if_neg h2]
   have b2:(2000≤(s.files.length:Int))=False:=eF
   have ka:=Fe s f.claim.policy hl
   cases ha:s.acct f.claim.policy with
   |none=>
    rw[ha] at ka
    simp only[oZ] at ka
    simp only[dM]
    refine af Tryz.func293 fun cx hN hR hF hL=> ?_
    exact aj (I b2 (I (decide_eq_false (of_eq_false b2)) ((@ge_iff_le Int _)))) (I k ka) tt
   |some a=>
    rw[ha] at ka
    simp only[oZ] at ka
    simp only[dM]
    have hm:a∈s.acc:=List.mem_of_find?_eq_some ha
    have kc:=yn a.h s.tariff f.claim (hc a hm).s (hc a hm).l (hc a hm).q
    generalize dZ a.h s.tariff f.claim=X at kc ⊢
    obtain⟨e,o⟩:=X
    simp only[qF] at kc
    have ko:=Ma f.claim
    have kp:=Xe (fun a:File=>a.claim.id) YB Qe s.files ⟨f.claim,[]⟩ hf
    cases o with
    |none=>
     simp only[bu] at kc
     refine af Tryz.func293 fun cx hN hR hF hL=> ?_
     exact aj (I b2 (I (decide_eq_false (of_eq_false b2)) ((@ge_iff_le Int _)))) (I k (I ka (I kc (I ko kp)))) tt
    |some q=>
     simp only at kc
     refine af Tryz.func293 fun cx hN hR hF hL=> ?_
     exact aj (I b2 (I (decide_eq_false (of_eq_false b2)) ((@ge_iff_le Int _)))) (I k (I ka (I kc (I ko kp)))) tt
attribute [local go_sem] Int.reduceLE Int.reduceNeg in
theorem YF {g:FuncId} {caps:List AV} {p:File→Bool} (hg:∀x:File,Fun Tryz.prog g (.agg x.flat::caps) (bool (p x))) (hc:bn Tryz.prog g) (hd:caps.all AV.isData=true) (l:List File) (hl:l.length≤100000):
 Fun Tryz.prog 155 [dW l,.fn (.func g) [] caps] (bool (l.any p)):=by
 have k:=BB hg hc hd l hl
 rw[kM] at k
 have hcr:=su hd
 have hdd:(∀x,x∈caps→x.isData=true)=True:=eq_true fun x hx=>List.all_eq_true.1 hd x hx
 have hcn:=jv hd
 cases hx:l.findIdx? p with
 |none=>
  rw[hx] at k
  have ha:l.any p=false:=by
   rw[List.any_eq_false]
   intro x h
   have:=List.findIdx?_eq_none_iff.1 hx x h
   simpa using this
  rw[ha]
  refine af Tryz.func155 fun cx hN hR hF hL=> ?_
  refine' run (I hcr hcn) (V.l4 fun K hK=> ?_)
  refine bR Ia k (by simpa using fun x hx=>List.all_eq_true.1 hd x hx) ?_
  (revert K;refine bK ?_;exact run (I hcr (I hcn ((@ge_iff_le Int _)))) tt)
 |some i=>
  rw[hx] at k
  simp only[Int.zero_add] at k
  obtain⟨x,h1,h2,-⟩:=lQ hx
  have ha:l.any p=true:=List.any_eq_true.2 ⟨x,List.mem_of_getElem? h1,h2⟩
  have b1:(0≤(i:Int))=True:=eT
  rw[ha]
  refine af Tryz.func155 fun cx hN hR hF hL=> ?_
  refine' run (I hcr hcn) (V.l4 fun K hK=> ?_)
  refine bR Ia k (by simpa using fun x hx=>List.all_eq_true.1 hd x hx) ?_
  (revert K;refine bK ?_;exact run (I hcr (I hcn (I b1 (I (decide_eq_true (of_eq_true b1)) ((@ge_iff_le Int _)))))) tt)
end
section
attribute [local go_sem] Option.toList_some Option.toList_none Int.reduceEq Int.reduceNe
def vC (f:Fact) (g:File):Bool:=decide (g.claim.policy=f.id)&&decide (f.booked≤g.claim.booked)
theorem YG (f:Fact) (g:File):Fun Tryz.prog 289 [.agg g.flat,.pp f.flat] (bool (vC f g)):=by
 refine af Tryz.func289 fun cx hN hR hF hL=> ?_
 refine' run ((@ge_iff_le Int _)) (V.l1 ?_)
 rfl
noncomputable def yw (s:Stt) (f:Fact) (h:History):Int:=if ik h f.change=0 then(sK (iT h f.change) s.tariff).2 else ik h f.change
noncomputable def sQ (s:Stt) (f:Fact):Stt×Int:=match s.acc.findIdx? (fun a:Acct=>decide (a.h.id=f.id)) with
 |none=>(s,7)
 |some i=>if s.files.any (vC f)=true then(s,10) else match s.acc[i]? with
  |some a=>(⟨s.tariff,s.acc.set i ⟨iT a.h f.change,a.paid⟩,s.files,s.tre,s.closed⟩,yw s f a.h)
  |none=>(s,7)
attribute [local go_sem] Int.reduceLT Int.reduceNeg in
theorem YH (s:Stt) (f:Fact) (hl:s.acc.length≤100000) (hf:s.files.length≤100000) (hc:f.change.covers.length≤100000) (ht:∀a,a∈s.acc→a.h.terms.covers.length≤100000) (hk:∀a,a∈s.acc→HOk (iT a.h f.change) s.tariff):Fun Tryz.prog 288 [.agg f.flat,.agg s.flat] (dM (sQ s f)):=by
 have k:=BG s f.id hl
 unfold Stt.acctAt at k
 rw[kM] at k
 unfold sQ
 cases hx:s.acc.findIdx? (fun a:Acct=>decide (a.h.id=f.id)) with
 |none=>
  rw[hx] at k
  simp only[dM]
  refine af Tryz.func288 fun cx hN hR hF hL=> ?_
  exact aj tt k tt
 |some i=>
  rw[hx] at k
  obtain⟨a,h1,-,h3⟩:=lQ hx
  simp only[Int.zero_add] at k
  simp only[h1]
  have hm:a∈s.acc:=List.mem_of_getElem? h1
  have hi:i<s.acc.length:=(List.getElem?_eq_some_iff.1 h1).1
  have e1:(s.acc.map Acct.flat)[i]? =some a.flat:=by rw[List.getElem?_map,h1];rfl
  have b0:((i:Int)<0)=False:=eF
  have b1:(0≤(i:Int))=True:=eT
  have b2:((i:Int)<(s.acc.length:Int))=True:=eT
  have kc:=YF (g:=289) (caps:=[.pp f.flat]) (p:=vC f) (fun x=>YG f x) Qd (by simp[Fact.flat]) s.files hf
  cases hy:s.files.any (vC f) with
  |true=>
   rw[hy] at kc
   simp only[dM,if_true]
   refine af Tryz.func288 fun cx hN hR hF hL=> ?_
   refine' aj (I e1 (I b0 (I b1 (I b2 (decide_eq_false (of_eq_false b0)))))) k (lv (fun hq=>o4 fun K hK=> ?_) tt)
   (refine d9 [0] (kc) ?_)
   (revert K;refine bK ?_;exact run tt tt)
  |false=>
   rw[hy] at kc
   simp only[dM,Bool.false_eq_true,if_false]
   have kp:=Un a.h f.change hc (ht a hm)
   have kd:=Mg (hk a hm)
   have kw:=LQ s.acc i ⟨iT a.h f.change,a.paid⟩ hi hl
   unfold yw
   by_cases h5:ik a.h f.change=0
   ·rw[if_pos h5]
    rw[h5] at kp
    refine af Tryz.func288 fun cx hN hR hF hL=> ?_
    refine' aj (I e1 (I b0 (I b1 (I b2 (decide_eq_false (of_eq_false b0)))))) k (lv (fun hq=>o4 fun K hK=> ?_) tt)
    (refine d9 [0] (kc) ?_)
    (revert K;refine bK ?_;exact aj (I e1 (I b0 (I b1 b2))) (I kp (I kd kw)) tt)
   ·rw[if_neg h5]
    refine af Tryz.func288 fun cx hN hR hF hL=> ?_
    refine' aj (I e1 (I b0 (I b1 (I b2 (decide_eq_false (of_eq_false b0)))))) k (lv (fun hq=>o4 fun K hK=> ?_) tt)
    (refine d9 [0] (kc) ?_)
    (revert K;refine bK ?_;exact aj (I e1 (I b0 (I b1 (I b2 (I (eq_false h5) (decide_eq_false h5)))))) (I kp kw) tt)
end
section
attribute [local go_sem] Option.toList_some Option.toList_none Int.reduceEq Int.reduceNe
def yx (m:Int) (p:Nat):Int:=m.fdiv (2 ^ min (p:Int).toNat IntKind.i64.bits)
def BJ (m:Int) (p:Nat):Int:=IntKind.i64.wrap (BitVec.ofInt IntKind.i64.bits (yx m p)&&& BitVec.ofInt IntKind.i64.bits 1).toNat
theorem Mh (t:Treaty) (day:Int) (p:Nat) (hp:p<8):∃n,Fun Tryz.prog 317 [.agg t.flat,int day,int p] (int n):=by
 have k:=rV t.from_ t.to_ day
 by_cases h1:t.kind=1
 ·cases h2:fM t.from_ t.to_ day with
  |false=>
   rw[h2] at k
   refine⟨0,?_⟩
   refine af Tryz.func317 fun cx hN hR hF hL=> ?_
   exact aj h1 k tt
  |true=>
   rw[h2] at k
   have z:((p:Int)<0)=False:=eF
   have hs:bC .shr .i64 t.perils (p:Int)=some (int (yx t.perils p)):=by
    unfold bC
    simp only
    rw[if_neg byOmega]
    rfl
   have ha:bC .and .i64 (yx t.perils p) 1=some (int (BJ t.perils p)):=rfl
   by_cases hb:BJ t.perils p=0
   ·refine⟨0,?_⟩
    refine af Tryz.func317 fun cx hN hR hF hL=> ?_
    exact aj (I h1 (I hs (I ha (I (eq_true hb) (decide_eq_true hb))))) k tt
   ·refine⟨t.bp,?_⟩
    refine af Tryz.func317 fun cx hN hR hF hL=> ?_
    exact aj (I h1 (I hs (I ha (I (eq_false hb) (decide_eq_false hb))))) k tt
 ·refine⟨0,?_⟩
  refine af Tryz.func317 fun cx hN hR hF hL=> ?_
  exact aj (I (eq_false h1) (decide_eq_false h1)) k tt
theorem Mi (t:Treaty):Fun Tryz.prog 308 [.agg t.flat] (int t.id):=by
 refine af Tryz.func308 fun cx hN hR hF hL=> ?_
 exact run tt tt
end
section
attribute [local go_sem] Option.toList_some Option.toList_none Int.reduceEq Int.reduceNe
open Classical in
noncomputable def BK (t:Treaty) (day:Int) (p:Nat):Int:=if hp:p<8 then(Mh t day p hp).choose else 0
theorem YI (t:Treaty) (day:Int) {p:Nat} (hp:p<8):Fun Tryz.prog 317 [.agg t.flat,int day,int p] (int (BK t day p)):=by
 unfold BK
 rw[dif_pos hp]
 exact(Mh t day p hp).choose_spec
noncomputable def vD (day:Int) (p:Nat):Int→List Treaty→Int
 |s,[]=>s
 |s,t::l=>vD day p (IntKind.i64.wrap (s+BK t day p)) l
noncomputable def vE (all:List Treaty) (day:Int):Nat→Bool
 |0=>false
 |m+1=>decide (10000<vD day (7-m) 0 all)||vE all day m
theorem YJ (l:List Treaty) (day:Int) (hl:l.length≤100000):Fun Tryz.prog 313 [iX l,int day] (bool (vE l day 8)):=by
 generalize hRr:vE l day 8=R
 refine af Tryz.func313 fun cx hN hR hF hL=> ?_
 refine' run tt (V.l1 ?_)
 refine aX (σ:={p:Nat // p≤8∧vE l day (8-p)=R}) (fun s=>⟨[(9,int s.1),(0,iX l),(1,int day)],[],3000⟩) (fun s=>8-s.1) id ⟨0,by omega,hRr⟩ ?_ ?_
 ·simp only[go_sem,↓reduceIte,hF]
  all_goals rfl
 ·rintro⟨p,h1,h2⟩
  simp only at h1 h2 ⊢
  by_cases hp:p<8
  ·have b0:((p:Int)<8)=True:=eT
   have e0:=wS p
   obtain⟨m,hm⟩:∃m,8-p=m+1:=⟨7-p,by omega⟩
   rw[hm,vE,show 7-m=p by omega] at h2
   refine' run (I b0 (decide_eq_true (of_eq_true b0))) (V.l3 fun hq=> ?_)
   generalize hS:vD day p 0 l=S at h2
   refine aX (σ:={q:Nat×Int // q.1≤l.length∧vD day p q.2 (l.drop q.1)=S}) (fun q=>⟨[(14,int q.1.1),(13,int l.length),(12,iX l),(6,int q.1.2),(5,int p),(9,int p),(0,iX l),(1,int day)],[],20000⟩) (fun q=>l.length-q.1.1) id ⟨(0,0),by simp,by simpa using hS⟩ ?_ ?_
   ·simp only[go_sem,↓reduceIte,hF]
    all_goals rfl
   ·rintro⟨⟨i,s⟩,g1,g2⟩
    simp only at g1 g2 ⊢
    by_cases hi:i<l.length
    ·have e1:(l.map Treaty.flat)[i]? =some (l[i].flat):=by rw[List.getElem?_map,List.getElem?_eq_getElem hi];rfl
     have e2:=wS i
     have b1:((i:Int)<(l.length:Int))=True:=eT
     rw[List.drop_eq_getElem_cons hi,vD] at g2
     generalize l[i]=t at *
     have kp:=YI t day hp
     refine' aj (I e1 (I e2 (I b1 (decide_eq_true (of_eq_true b1))))) kp (V.l3 fun hq=> ?_)
     refine⟨⟨(i+1,IntKind.i64.wrap (s+BK t day p)),hi,g2⟩,id,?_,mS⟩
     simp only[go_sem,↓reduceIte,hF]
    ·obtain rfl:i=l.length:=byOmega
     rw[List.drop_length,vD] at g2
     subst g2
     by_cases hb:10000<s
     ·rw[decide_eq_true hb,Bool.true_or] at h2
      subst h2
      exact run (I (@gt_iff_lt Int _) (I (eq_true hb) (decide_eq_true hb))) tt
     ·rw[decide_eq_false hb,Bool.false_or] at h2
      refine' run (I (@gt_iff_lt Int _) (I (eq_false hb) (I (decide_eq_false hb) e0))) (lv (fun hq=>fun hq=>lf ?_) tt)
      refine⟨⟨p+1,by omega,by rw[show 8-(p+1)=m by omega];exact h2⟩,id,?_,mS⟩
      simp only[go_sem,↓reduceIte,hF]
  ·obtain rfl:p=8:=byOmega
   have h2:false=R:=h2
   subst h2
   exact run tt tt
end
section
attribute [local go_sem] Option.toList_some Option.toList_none Int.reduceEq Int.reduceNe
noncomputable def yz (t:Treaty) (all:List Treaty) (x:Treaty):Bool:=fM t.from_ t.to_ x.from_&&vE all x.from_ 8
attribute [local go_sem] Bool.false_and Bool.true_and in
theorem YK (t:Treaty) (all:List Treaty) (x:Treaty) (hl:all.length≤100000):Fun Tryz.prog 312 [.agg x.flat,.pp t.flat,.pp [iX all]] (bool (yz t all x)):=by
 have k1:=rV t.from_ t.to_ x.from_
 have k2:=YJ all x.from_ hl
 unfold yz
 cases h:fM t.from_ t.to_ x.from_ with
 |true=>
  rw[h] at k1
  refine af Tryz.func312 fun cx hN hR hF hL=> ?_
  exact aj tt (I k1 k2) tt
  all_goals simp
 |false=>
  rw[h] at k1
  refine af Tryz.func312 fun cx hN hR hF hL=> ?_
  exact aj tt (I k1 k2) tt
  all_goals simp
end
section
attribute [local go_sem] Option.toList_some Option.toList_none Int.reduceEq Int.reduceNe
def BL (m:Int) (x:Treaty):Treaty:=⟨x.id,x.kind,x.from_,x.to_,x.bp,x.attach,x.width,x.again,IntKind.i64.wrap (BitVec.ofInt IntKind.i64.bits x.perils&&& BitVec.ofInt IntKind.i64.bits m).toNat⟩
def allT (t:Treaty) (l:List Treaty):List Treaty:=t::l.map (BL t.perils)
theorem YL (l:List Treaty):(aa Treaty.flat l).length=l.length*9:=dU (F:=Treaty.flat) (k:=9) (fun _=>rfl) l
theorem YM (l:List Treaty) (t:Treaty) (h:¬t.kind=1):Fun Tryz.prog 310 [iX l,.agg t.flat] (bool false):=by
 refine af Tryz.func310 fun cx hN hR hF hL=> ?_
 exact run (I (eq_false h) (decide_eq_false h)) tt
attribute [local go_sem] Int.reduceLE Int.reduceNeg in
theorem Fg {g:FuncId} {caps:List AV} {p:Treaty→Bool} (hg:∀x:Treaty,Fun Tryz.prog g (.agg x.flat::caps) (bool (p x))) (hc:bn Tryz.prog g) (hd:caps.all AV.isData=true) (l:List Treaty) (hl:l.length≤100000):
 Fun Tryz.prog 92 [iX l,.fn (.func g) [] caps] (bool (l.any p)):=by
 have k:=E9 hg hc hd l hl
 rw[kM] at k
 have hcr:=su hd
 have hdd:(∀x,x∈caps→x.isData=true)=True:=eq_true fun x hx=>List.all_eq_true.1 hd x hx
 have hcn:=jv hd
 cases hx:l.findIdx? p with
 |none=>
  rw[hx] at k
  have ha:l.any p=false:=by
   rw[List.any_eq_false]
   intro x h
   have:=List.findIdx?_eq_none_iff.1 hx x h
   simpa using this
  rw[ha]
  refine af Tryz.func92 fun cx hN hR hF hL=> ?_
  refine' run (I hcr hcn) (V.l4 fun K hK=> ?_)
  refine bR H8 k (by simpa using fun x hx=>List.all_eq_true.1 hd x hx) ?_
  (revert K;refine bK ?_;exact run (I hcr (I hcn ((@ge_iff_le Int _)))) tt)
 |some i=>
  rw[hx] at k
  simp only[Int.zero_add] at k
  obtain⟨x,h1,h2,-⟩:=lQ hx
  have ha:l.any p=true:=List.any_eq_true.2 ⟨x,List.mem_of_getElem? h1,h2⟩
  have b1:(0≤(i:Int))=True:=eT
  rw[ha]
  refine af Tryz.func92 fun cx hN hR hF hL=> ?_
  refine' run (I hcr hcn) (V.l4 fun K hK=> ?_)
  refine bR H8 k (by simpa using fun x hx=>List.all_eq_true.1 hd x hx) ?_
  (revert K;refine bK ?_;exact run (I hcr (I hcn (I b1 (I (decide_eq_true (of_eq_true b1)) ((@ge_iff_le Int _)))))) tt)
theorem YN (l:List Treaty) (t:Treaty) (h:t.kind=1) (hl:l.length≤1000):Fun Tryz.prog 310 [iX l,.agg t.flat] (bool ((allT t l).any (yz t (allT t l)))):=by
 have kc:=Fg (g:=312) (caps:=[.pp t.flat,.pp [iX (allT t l)]]) (p:=yz t (allT t l)) (fun x=>YK t (allT t l) x (by simp[allT];omega)) Qj (by simp[Treaty.flat]) (allT t l) (by simp[allT];omega)
 refine lq Tryz.func310 rfl (Nat.le_of_ble_eq_true rfl) fun cx hN hR hF hL=> ?_;apply dS;(case hA=>(simp only[go_sem,↓reduceIte];rfl))
 (refine aD ?_)
 refine' run h (V.l1 ?_)
 (refine aD ?_)
 refine' run h (V.l3 fun hq=> ?_)
 (refine aD ?_)
 refine' run h (V.l1 ?_)
 (refine aD ?_)
 refine' run h (V.l1 ?_)
 refine aX (σ:={i:Nat // i≤l.length}) (fun s=>⟨[(15,int s.1),(14,int l.length),(13,iX l),(5,.ptr 2016 0),(3,.ptr 0 0)],[(2016,some ⟨30,[.osl 7001 9 0 (s.1+1)]⟩),(7001,some ⟨55,aa Treaty.flat (allT t (l.take s.1))⟩),(0,some ⟨55,t.flat⟩)],8000⟩) (fun s=>l.length-s.1) (eG 7001 2008) ⟨0,by omega⟩ ?_ ?_
 ·have h0:aa Treaty.flat (allT t (l.take 0))=t.flat:=by simp[aa,allT]
  simp only[h0]
  simp only[go_sem,↓reduceIte,hF,h]
  all_goals rfl
 ·rintro⟨i,h1⟩
  simp only at h1 ⊢
  by_cases hi:i<l.length
  ·have e1:(l.map Treaty.flat)[i]? =some (l[i].flat):=by rw[List.getElem?_map,List.getElem?_eq_getElem hi];rfl
   have e2:=wS i
   have b1:((i:Int)<(l.length:Int))=True:=eT
   have hlen:(aa Treaty.flat (allT t (l.take i))).length=(i+1)*9:=by rw[YL];simp[allT];omega
   have hnx:aa Treaty.flat (allT t (l.take (i+1)))=aa Treaty.flat (allT t (l.take i))++(BL t.perils l[i]).flat:=by
    rw[List.take_succ_eq_append_getElem hi]
    simp only[aa,allT,List.map_append,List.map_cons,List.map_nil,List.flatten_append,List.flatten_cons,List.flatten_nil,List.append_nil,List.append_assoc]
   generalize l[i]=x at *
   have ha:bC .and .i64 x.perils t.perils=some (int (BL t.perils x).perils):=rfl
   refine' run (I e1 (I e2 (I b1 (I ha (I hlen (I h (decide_eq_true (of_eq_true b1)))))))) (lv (fun hq=>lf ?_) (lv (fun hq=>o4 fun K hK=> ?_) tt))
   ·refine⟨⟨i+1,hi⟩,eG 7001 11024,?_,mS⟩
    simp only[hnx,BL]
    simp only[go_sem,↓reduceIte,hF,List.map_append,List.all_append,h]
   ·simp[maxLen];omega
  ·obtain rfl:i=l.length:=byOmega
   rw[List.take_length]
   refine' run tt (V.l3 fun hq=> ?_)
   refine rP [7001,2016,0] [(3,.pp t.flat),(5,.pp [iX (allT t l)])] [] rfl ?_ ?_ ?_
   ·simp only[go_sem,↓reduceIte]
    exact⟨⟨by simp[allT],bS (F:=Treaty.flat) (fun _=>rfl) _⟩,dR (F:=Treaty.flat) (k:=9) (fun _=>rfl) ER _ (by simp[allT])⟩
   ·simp only[go_sem,↓reduceIte]
    all_goals trivial
   refine aL ?_
   exact aj tt kc tt
end
section
attribute [local go_sem] Option.toList_some Option.toList_none Int.reduceEq Int.reduceNe
theorem YO (f:Fact) (x:Treaty):Fun Tryz.prog 309 [.agg x.flat,.pp [.v (.func (.func 308) #[] #[])],.pp f.flat] (bool (decide (x.id=f.treaty.id))):=by
 refine af Tryz.func309 fun cx hN hR hF hL=> ?_
 exact aj tt Mi tt
open Classical in
noncomputable def vF (l:List Treaty) (t:Treaty):Bool:=if t.kind=1 then(allT t l).any (yz t (allT t l)) else false
theorem YP (l:List Treaty) (t:Treaty) (hl:l.length≤1000):Fun Tryz.prog 310 [iX l,.agg t.flat] (bool (vF l t)):=by
 unfold vF
 split
 ·rename_i h;exact YN l t h hl
 ·rename_i h;exact YM l t h
noncomputable def sW (s:Stt) (f:Fact):Stt×Int:=
 if s.tre.any (fun x=>decide (x.id=f.treaty.id))=true then(s,8) else if 100≤s.tre.length then(s,2) else if vF s.tre f.treaty=true then(s,13) else(⟨s.tariff,s.acc,s.files,BF (fun x=>x.id) s.tre f.treaty,s.closed⟩,0)
theorem YQ (s:Stt) (f:Fact) (hl:s.tre.length≤1000):Fun Tryz.prog 307 [.agg f.flat,.agg s.flat] (dM (sW s f)):=by
 have kc:=Fg (g:=309) (caps:=[.pp [.v (.func (.func 308) #[] #[])],.pp f.flat]) (p:=fun x=>decide (x.id=f.treaty.id)) (fun x=>YO f x) Qi (by simp[Fact.flat]) s.tre byOmega
 have ko:=YP s.tre f.treaty hl
 have kp:=Xl (fun x:Treaty=>x.id) Mi Qh s.tre f.treaty byOmega
 unfold sW
 cases h1:s.tre.any (fun x=>decide (x.id=f.treaty.id)) with
 |true=>
  rw[h1] at kc
  simp only[if_true,dM]
  refine af Tryz.func307 fun cx hN hR hF hL=> ?_
  refine' run tt (V.l4 fun K hK=> ?_)
  (refine d9 [1000,0] (kc) ?_)
  (revert K;refine bK ?_;exact run tt tt)
 |false=>
  rw[h1] at kc
  simp only[Bool.false_eq_true,if_false]
  by_cases h2:100≤s.tre.length
  ·rw[if_pos h2,dM]
   have b2:(100≤(s.tre.length:Int))=True:=eT
   refine af Tryz.func307 fun cx hN hR hF hL=> ?_
   refine' run tt (V.l4 fun K hK=> ?_)
   (refine d9 [1000,0] (kc) ?_)
   (revert K;refine bK ?_;exact run (I b2 (I (decide_eq_true (of_eq_true b2)) ((@ge_iff_le Int _)))) tt)
  ·rw[if_neg h2]
   have b2:(100≤(s.tre.length:Int))=False:=eF
   cases h3:vF s.tre f.treaty with
   |true=>
    rw[h3] at ko
    simp only[if_true,dM]
    refine af Tryz.func307 fun cx hN hR hF hL=> ?_
    refine' run tt (V.l4 fun K hK=> ?_)
    (refine d9 [1000,0] (kc) ?_)
    (revert K;refine bK ?_;exact aj (I b2 (I (decide_eq_false (of_eq_false b2)) ((@ge_iff_le Int _)))) ko tt)
   |false=>
    rw[h3] at ko
    simp only[Bool.false_eq_true,if_false,dM]
    refine af Tryz.func307 fun cx hN hR hF hL=> ?_
    refine' run tt (V.l4 fun K hK=> ?_)
    (refine d9 [1000,0] (kc) ?_)
    (revert K;refine bK ?_;exact aj (I b2 (I (decide_eq_false (of_eq_false b2)) ((@ge_iff_le Int _)))) (I ko kp) tt)
end
section
attribute [local go_sem] Option.toList_some Option.toList_none Int.reduceEq Int.reduceNe
structure Loss where
 claim:Int
 event:Int
 day:Int
 peril:Int
 amt:Int
deriving DecidableEq
@[go_sem] def Loss.flat (x:Loss):List AV:=[int x.claim,int x.event,int x.day,int x.peril,int x.amt]
def Loss.right (x:Loss):Bool:=aQ x.claim 1 1000000000&&aQ x.event 0 1000000000&&aQ x.day 1 292194&&aQ x.peril 0 7&&aQ x.amt 0 1000000000000000
theorem Loss.right_iff {x:Loss}:x.right=true↔(1≤x.claim∧x.claim≤1000000000)∧(0≤x.event∧x.event≤1000000000)∧(1≤x.day∧x.day≤292194)∧(0≤x.peril∧x.peril≤7)∧0≤x.amt∧x.amt≤1000000000000000:=by
 simp[Loss.right,aQ,and_assoc]
theorem Mj (x:Loss):Fun Tryz.prog 91 [.agg x.flat] (bool x.right):=by
 unfold Loss.right
 cases a1:aQ x.claim 1 1000000000 with
 |false=>
  refine af Tryz.func91 fun cx hN hR hF hL=> ?_
  (repeat' first|focus ((try(revert K;refine bK ?_));refine' run a1 ?_;(repeat' first|exact tt|apply lv|(apply oK;intro K hK)|intro hq);all_goals apply lf)|(with_reducible apply aU [1024] bE (bF 1 1000000000 [x.claim]);(case hy|hl|hk=>(simp only[go_sem,↓reduceIte];try with_unfolding_all rfl));(case hz=>(with_unfolding_all simp[go_sem,aH,a1];done))))
 |true=>
  cases a2:aQ x.event 0 1000000000 with
  |false=>
   refine af Tryz.func91 fun cx hN hR hF hL=> ?_
   (repeat' first|focus ((try(revert K;refine bK ?_));refine' run (I a1 a2) ?_;(repeat' first|exact tt|apply lv|(apply oK;intro K hK)|intro hq);all_goals apply lf)|(with_reducible apply aU [1024] bE (bF 1 1000000000 [x.claim]);(case hy|hl|hk=>(simp only[go_sem,↓reduceIte];try with_unfolding_all rfl));(case hz=>(with_unfolding_all simp[go_sem,aH,a1,a2];done)))|(with_reducible apply aU [1072] bE (bF 0 1000000000 [x.event]);(case hy|hl|hk=>(simp only[go_sem,↓reduceIte];try with_unfolding_all rfl));(case hz=>(with_unfolding_all simp[go_sem,aH,a1,a2];done))))
  |true=>
   cases a3:aQ x.day 1 292194 with
   |false=>
    refine af Tryz.func91 fun cx hN hR hF hL=> ?_
    (repeat' first|focus ((try(revert K;refine bK ?_));refine' run (I a1 (I a2 a3)) ?_;(repeat' first|exact tt|apply lv|(apply oK;intro K hK)|intro hq);all_goals apply lf)|(with_reducible apply aU [1024] bE (bF 1 1000000000 [x.claim]);(case hy|hl|hk=>(simp only[go_sem,↓reduceIte];try with_unfolding_all rfl));(case hz=>(with_unfolding_all simp[go_sem,aH,a1,a2,a3];done)))|(with_reducible apply aU [1072] bE (bF 0 1000000000 [x.event]);(case hy|hl|hk=>(simp only[go_sem,↓reduceIte];try with_unfolding_all rfl));(case hz=>(with_unfolding_all simp[go_sem,aH,a1,a2,a3];done)))|(with_reducible apply aU [1128] bE (bF 1 292194 [x.day]);(case hy|hl|hk=>(simp only[go_sem,↓reduceIte];try with_unfolding_all rfl));(case hz=>(with_unfolding_all simp[go_sem,aH,a1,a2,a3];done))))
   |true=>
    cases a4:aQ x.peril 0 7 with
    |false=>
     refine af Tryz.func91 fun cx hN hR hF hL=> ?_
     (repeat' first|focus ((try(revert K;refine bK ?_));refine' run (I a1 (I a2 (I a3 a4))) ?_;(repeat' first|exact tt|apply lv|(apply oK;intro K hK)|intro hq);all_goals apply lf)|(with_reducible apply aU [1024] bE (bF 1 1000000000 [x.claim]);(case hy|hl|hk=>(simp only[go_sem,↓reduceIte];try with_unfolding_all rfl));(case hz=>(with_unfolding_all simp[go_sem,aH,a1,a2,a3,a4];done)))|(with_reducible apply aU [1072] bE (bF 0 1000000000 [x.event]);(case hy|hl|hk=>(simp only[go_sem,↓reduceIte];try with_unfolding_all rfl));(case hz=>(with_unfolding_all simp[go_sem,aH,a1,a2,a3,a4];done)))|(with_reducible apply aU [1128] bE (bF 1 292194 [x.day]);(case hy|hl|hk=>(simp only[go_sem,↓reduceIte];try with_unfolding_all rfl));(case hz=>(with_unfolding_all simp[go_sem,aH,a1,a2,a3,a4];done)))|(with_reducible apply aU [1184] bE (bF 0 7 [x.peril]);(case hy|hl|hk=>(simp only[go_sem,↓reduceIte];try with_unfolding_all rfl));(case hz=>(with_unfolding_all simp[go_sem,aH,a1,a2,a3,a4];done))))
    |true=>
     refine af Tryz.func91 fun cx hN hR hF hL=> ?_
     (repeat' first|focus ((try(revert K;refine bK ?_));refine' run (I a1 (I a2 (I a3 a4))) ?_;(repeat' first|exact tt|apply lv|(apply oK;intro K hK)|intro hq);all_goals apply lf)|(with_reducible apply aU [1024] bE (bF 1 1000000000 [x.claim]);(case hy|hl|hk=>(simp only[go_sem,↓reduceIte];try with_unfolding_all rfl));(case hz=>(with_unfolding_all simp[go_sem,aH,a1,a2,a3,a4];done)))|(with_reducible apply aU [1072] bE (bF 0 1000000000 [x.event]);(case hy|hl|hk=>(simp only[go_sem,↓reduceIte];try with_unfolding_all rfl));(case hz=>(with_unfolding_all simp[go_sem,aH,a1,a2,a3,a4];done)))|(with_reducible apply aU [1128] bE (bF 1 292194 [x.day]);(case hy|hl|hk=>(simp only[go_sem,↓reduceIte];try with_unfolding_all rfl));(case hz=>(with_unfolding_all simp[go_sem,aH,a1,a2,a3,a4];done)))|(with_reducible apply aU [1184] bE (bF 0 7 [x.peril]);(case hy|hl|hk=>(simp only[go_sem,↓reduceIte];try with_unfolding_all rfl));(case hz=>(with_unfolding_all simp[go_sem,aH,a1,a2,a3,a4];done)))|(with_reducible apply aU [1240] bE (bF 0 1000000000000000 [x.amt]);(case hy|hl|hk=>(simp only[go_sem,↓reduceIte];try with_unfolding_all rfl));(case hz=>(with_unfolding_all simp[go_sem,aH,a1,a2,a3,a4];done))))
def vG (t:Treaty) (x:Loss):Bool:=t.right&&x.right&&fM t.from_ t.to_ x.day&&decide (BJ t.perils x.peril.toNat=1)
theorem Ml (t:Treaty) (x:Loss):Fun Tryz.prog 50 [.agg t.flat,.agg x.flat] (bool (vG t x)):=by
 have k1:=Fb t
 have k2:=Mj x
 have k3:=rV t.from_ t.to_ x.day
 unfold vG
 cases h1:t.right with
 |false=>
  rw[h1] at k1
  refine af Tryz.func50 fun cx hN hR hF hL=> ?_
  exact aj tt k1 tt
 |true=>
  rw[h1] at k1
  cases h2:x.right with
  |false=>
   rw[h2] at k2
   refine af Tryz.func50 fun cx hN hR hF hL=> ?_
   exact aj tt (I k1 k2) tt
  |true=>
   rw[h2] at k2
   cases h3:fM t.from_ t.to_ x.day with
   |false=>
    rw[h3] at k3
    refine af Tryz.func50 fun cx hN hR hF hL=> ?_
    exact aj tt (I k1 (I k2 k3)) tt
   |true=>
    rw[h3] at k3
    have hr:=Loss.right_iff.1 h2
    obtain⟨p,hp⟩:∃p:Nat,x.peril.toNat=p:=⟨_,rfl⟩
    rw[hp]
    have hs:bC .shr .i64 t.perils x.peril=some (int (yx t.perils p)):=by
     rw[show x.peril=(p:Int) by omega]
     unfold bC
     simp only
     rw[if_neg byOmega]
     rfl
    have ha:bC .and .i64 (yx t.perils p) 1=some (int (BJ t.perils p)):=rfl
    refine af Tryz.func50 fun cx hN hR hF hL=> ?_
    exact aj (I hs ha) (I k1 (I k2 k3)) tt
def Fh (t:Treaty) (x:Loss):Int:=if t.kind=1∧vG t x=true then jq x.amt t.bp else 0
theorem YR (t:Treaty) (x:Loss):∃b,Fun Tryz.prog 102 [.agg t.flat,.agg x.flat] (.tup [int (Fh t x),bool b]):=by
 have k1:=Ml t x
 unfold Fh
 by_cases h1:t.kind=1
 ·cases h2:vG t x with
  |false=>
   rw[h2] at k1
   refine⟨false,?_⟩
   rw[if_neg ai]
   refine af Tryz.func102 fun cx hN hR hF hL=> ?_
   exact aj (I (eq_true h1) (decide_eq_true h1)) k1 tt
  |true=>
   rw[h2] at k1
   refine⟨true,?_⟩
   rw[if_pos ⟨h1,rfl⟩]
   have h3:=h2
   unfold vG at h3
   simp only[Bool.and_eq_true] at h3
   have hx:=Loss.right_iff.1 h3.1.1.2
   have ht:=h3.1.1.1
   unfold Treaty.right at ht
   rw[if_pos h1] at ht
   simp only[Bool.and_eq_true,aQ,decide_eq_true_eq] at ht
   have kb:=L6 x.amt t.bp byOmega byOmega byOmega byOmega
   refine af Tryz.func102 fun cx hN hR hF hL=> ?_
   exact aj (I (eq_true h1) (decide_eq_true h1)) (I k1 kb) tt
 ·refine⟨false,?_⟩
  rw[if_neg (by simp[h1])]
  refine af Tryz.func102 fun cx hN hR hF hL=> ?_
  exact aj (I (eq_false h1) (decide_eq_false h1)) k1 tt
end
section
open Go.RowKit Go.Maps
theorem nJ {M:Nat→Prop} {w:World} {u x:Value} (h:RepD M w u (.v x)):u=x:=by cases h;rfl
theorem YS {M:Nat→Prop} {w:World} {v:Value} {l:List Treaty} (h:RepD M w v (iX l)):∃A cap,v= .slice A l.length cap∧l.length≤maxLen∧(0<l.length→∃b off,A=some ⟨b,off,none⟩∧b<w.heap.size∧∀i t,l[i]? =some t→
 w.cell? ⟨b,off+i*9,none⟩=some (.int .i64 t.id)∧w.cell? ⟨b,off+i*9+1,none⟩=some (.int .i64 t.kind)∧w.cell? ⟨b,off+i*9+2,none⟩=some (.int .i64 t.from_)∧w.cell? ⟨b,off+i*9+3,none⟩=some (.int .i64 t.to_)∧
 w.cell? ⟨b,off+i*9+4,none⟩=some (.int .i64 t.bp)∧w.cell? ⟨b,off+i*9+5,none⟩=some (.int .i64 t.attach)∧w.cell? ⟨b,off+i*9+6,none⟩=some (.int .i64 t.width)∧w.cell? ⟨b,off+i*9+7,none⟩=some (.int .i64 t.again)∧w.cell? ⟨b,off+i*9+8,none⟩=some (.int .i64 t.perils)):=by
 cases h with
 |sl b off x hn hc hm hf hk hA hl hx=>
  rename_i A n cap
  simp only[List.length_map] at hn hl
  subst hn
  refine⟨A,cap,rfl,by omega,fun h0=> ?_⟩
  obtain⟨h1,h2,h3⟩:=hA (by intro h;rw[List.map_eq_nil_iff] at h;subst h;simp at h0)
  refine⟨b,off,h1,h3,fun i f hi=> ?_⟩
  have hil:=(List.getElem?_eq_some_iff.1 hi).1
  have hr:(l.map Treaty.flat)[i]? =some f.flat:=by rw[List.getElem?_map,hi];rfl
  have q:=fun j y hj=>hx i f.flat j y hr hj
  have c:=fun j hj=>(hl i j hil hj).1
  refine⟨?_,?_,?_,?_,?_,?_,?_,?_,?_⟩
  ·have:=c 0 byOmega;rw[nJ (q 0 _ rfl)] at this;exact this
  ·have:=c 1 byOmega;rw[nJ (q 1 _ rfl)] at this;exact this
  ·have:=c 2 byOmega;rw[nJ (q 2 _ rfl)] at this;exact this
  ·have:=c 3 byOmega;rw[nJ (q 3 _ rfl)] at this;exact this
  ·have:=c 4 byOmega;rw[nJ (q 4 _ rfl)] at this;exact this
  ·have:=c 5 byOmega;rw[nJ (q 5 _ rfl)] at this;exact this
  ·have:=c 6 byOmega;rw[nJ (q 6 _ rfl)] at this;exact this
  ·have:=c 7 byOmega;rw[nJ (q 7 _ rfl)] at this;exact this
  ·have:=c 8 byOmega;rw[nJ (q 8 _ rfl)] at this;exact this
def KeyB (D:DataW Unit) (S:List Int):Prop:=IsMap D∧∀x:Int,D.atKey (.int .i64 x) (.lit (.bool false))= .lit (.bool (decide (x∈S)))
theorem KeyB.nil:KeyB (.map []) []:=⟨⟨[],rfl⟩,fun x=>by
 have h0:Maps.has (.map []:DataW Unit) (.int .i64 x)=false:=rfl
 rw[atKey_of_not_has h0];simp⟩
theorem KeyB.put {D:DataW Unit} {S:List Int} (h:KeyB D S) (x:Int):KeyB (D.put (.int .i64 x) (.lit (.bool true))) (S++[x]):=by
 refine⟨?_,fun y=> ?_⟩
 ·obtain⟨es,rfl⟩:=h.1
  exact⟨_,rfl⟩
 ·by_cases hy:y=x
  ·subst hy
   rw[atKey_put_same h.1 (by simp[WideAt.IsKeyLit])]
   simp
  ·rw[atKey_put_other (by intro e;injection e with _ e;exact hy e),h.2 y]
   simp[hy]
theorem YT {P:Program} {e:TypeId} (he:P.underlying e=some .bool) {v:Value} {z:DataW Unit×List MemPlace} (h:plainElem P e v=some z):∃c,v= .bool c∧z=(.lit (.bool c),[]):=by
 unfold plainElem at h
 rw[he] at h
 cases v<;>simp at h
 exact⟨_,rfl,h.symm⟩
theorem YU {P:Program} (w:World) {ops:Array Oper} {rest:List Oper} {o:Oper} {a:Go.Act} {Q:Exit→Go.Act→World→Prop} (hg:o.guard=none) (m x:Operand) (t:TypeId) (hop:o.op=Op.lookup t m x false) (k e:TypeId) (K:Keyed P k) (ht:P.underlying t=some (.map k e)) (he:P.underlying e=some .bool)
 (hz:(zeroValue e).run P w= .ok (.bool false) w) (b n:Nat) (D:DataW Unit) (hm:a.eval m= .map (some b)) (hown:w.ownsMap P k (plainElem P e) b n D) (key:Value) (kl:Lit) (hx:a.eval x=key) (hkey:keyOf P k key=some kl)
 (hK:∀c:Bool,D.atKey kl (.lit (.bool false))= .lit (.bool c)→wpList P ops Q rest (a.put o.dst (.bool c)) w):wpList P ops Q (o::rest) a w:=by
 refine wpList_plain hg fun K' hK'=> ?_
 obtain⟨v,ps,hrun,hv⟩:=hown.lookup K ht hz (plainElem_bool he false) hkey
 obtain⟨c,rfl,hc⟩:=YT he hv
 injection hc with hc _
 unfold Oper.wp
 simp[execOp,hop,hm,hx,hrun,Result.andThen]
 exact hK' _ _ (hK c hc)
def sZ:List Int→List Int→Bool
 |_,[]=>false
 |S,x::l=>if x∈S then true else sZ (S++[x]) l
set_option maxRecDepth 100000 in
set_option maxHeartbeats 1000000 in
theorem YV {M:Nat→Prop} (l:List Treaty) (v:Value) (w:World) (h:RepD M w v (iX l)) (hl0:l.length≤1000000) (hI:∀t,t∈l→1≤t.id∧t.id≤1000000000):
 Calls Tryz.prog 94 #[v] w fun e w'=>e= .returned (.bool (sZ [] (l.map Treaty.id)))∧Below w.heap.size w w':=by
 obtain⟨A,cap,rfl,hlm,hl⟩:=YS h
 clear h
 have hmm:= @run_makeMap Tryz.prog
 have law:Keyed Tryz.prog 3:=int_keyed Tryz.underlying3
 unfold maxLen at hlm
 go_enter Tryz.func94,Tryz.ntmps94
 go_wp2
 go_loopw [9] (fun i wr=>∃(k:Nat) (D:DataW Unit),k≤l.length∧i= .int .i64 k∧wr.ownsMap Tryz.prog 3 (plainElem Tryz.prog 4) w.heap.size k D∧KeyB D ((l.take k).map Treaty.id)∧sZ [] (l.map Treaty.id)=sZ ((l.take k).map Treaty.id) ((l.drop k).map Treaty.id)∧Below w.heap.size w wr) (fun i _=>l.length-(intOf i).toNat)
 case atStart=>exact⟨0,.map [],by omega,rfl,World.ownsMap_made _ _ _ _,KeyB.nil,by simp,(Below.refl _ _).alloc (Nat.le_refl _) _⟩
 case round=>
  obtain⟨k,D,hk,rfl,hown,hkey,htw,hwr⟩:=hrel
  by_cases hlt:k<l.length
  ·obtain⟨b,off,rfl,hb,hc⟩:=hl byOmega
   obtain⟨f,hf⟩:∃f,l[k]? =some f:=⟨_,List.getElem?_eq_getElem hlt⟩
   obtain⟨c0,c1,c2,c3,c4,c5,c6,c7,c8⟩:=hc k f hf
   have hid:=hI f (List.mem_of_getElem? hf)
   have hz:=hown.lt
   rw[←hwr.cell (p:=⟨b,_,none⟩) hb] at c0 c1 c2 c3 c4 c5 c6 c7 c8
   have hwx:(Lit.int .i64 f.id).wf=true:=by
    simp[Lit.wf,IntKind.min,IntKind.max,IntKind.bits,IntKind.signed]
    omega
   have hdr:l.drop k=f::l.drop (k+1):=by
    rw[List.drop_eq_getElem_cons hlt]
    congr 1
    exact(List.getElem?_eq_some_iff.1 hf).2
   have htk:(l.take (k+1)).map Treaty.id=(l.take k).map Treaty.id++[f.id]:=by rw[List.take_add_one,hf];simp
   rw[hdr,List.map_cons,sZ] at htw
   clear hl hc
   obtain⟨t0,t1,t2,t3,t4,t5,t6,t7,t8⟩:=f
   simp only at c0 c1 c2 c3 c4 c5 c6 c7 c8 hwx hid htk htw
   go_wp2_with (first
    |(at_lookup;refine YU _ rfl _ _ 264 rfl 3 4 law Tryz.underlying264 Tryz.underlying4 rfl w.heap.size _ _ rfl (hown.alloc _) _ _ rfl (keyOf_int_mk Tryz.underlying3 hwx) ?_;intro c hc)
    |(at_mapUpdate;refine wpList_mapUpdate_own _ rfl _ _ _ 264 rfl 3 4 law Tryz.underlying264 _ w.heap.size _ _ rfl (hown.alloc _) (by unfold maxLen;omega) _ _ _ rfl rfl (keyOf_int_mk Tryz.underlying3 hwx) _ [] (plainElem_bool Tryz.underlying4 true) ?_;intro w2 hown2 hg2;go_frame)
    |go_in)
   ·have hin:t0∈(l.take k).map Treaty.id:=by
     have:=hkey.2 t0
     rw[hc] at this
     injection this with this
     injection this with this
     exact of_decide_eq_true (this.symm.trans ‹c=true›)
    rw[if_pos hin] at htw
    exact bodyPost_ret (v:= .bool true) (by simp[results,Tryz.results94,go_sem]) rfl ⟨by rw[htw],hwr.alloc hwr.size _⟩
   ·have hni:t0∉(l.take k).map Treaty.id:=by
     have:=hkey.2 t0
     rw[hc] at this
     injection this with this
     injection this with this
     exact of_decide_eq_false (this.symm.trans ‹c=false›)
    rw[if_neg hni] at htw
    refine⟨⟨k+1,_,hlt,rfl,hown2,by rw[htk];exact hkey.put t0,by rw[htk];exact htw,(hwr.alloc hwr.size _).grown hg2 (by simp;have:=hwr.size;omega) (fun j hj=>by cases hj;exact Nat.le_refl _)⟩,?_⟩
    simp[intOf];omega
  ·obtain rfl:k=l.length:=byOmega
   rw[List.drop_length] at htw
   go_wp2
   exact bodyPost_ret (v:= .bool false) (by simp[results,Tryz.results94,go_sem]) rfl ⟨by rw[htw];rfl,hwr⟩
theorem YW (l:List Treaty) (hl:l.length≤1000000) (hI:∀t,t∈l→1≤t.id∧t.id≤1000000000):Fun Tryz.prog 94 [iX l] (bool (sZ [] (l.map Treaty.id))):=by
 intro M w vs hM hsz hvs
 obtain⟨v,rfl⟩:∃v,vs= #[v]:=by
  refine⟨vs[0]'(by simp at hsz;omega),?_⟩
  apply Array.ext
  ·simpa using hsz
  ·intro i h1 h2
   have:i=0:=by simp at h2;omega
   subst this;rfl
 refine(YV l v w (hvs 0 v _ rfl rfl) hl hI).mono ?_
 rintro e w' ⟨rfl,hb⟩
 exact⟨_,rfl,.v _,hb⟩
end
end Go.Proofs.YtlikpcpllahalaaGreat.V
