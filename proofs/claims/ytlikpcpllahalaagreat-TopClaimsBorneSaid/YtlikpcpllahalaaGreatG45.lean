/- Parts of the proof. -/
import Derived.Test.YtlikpcpllahalaaGreatG44
set_option maxHeartbeats 16000000
set_option linter.unusedSimpArgs false
set_option linter.unusedVariables false
namespace Go.Proofs.YtlikpcpllahalaaGreat.V
open Go.RowKit
set_option maxRecDepth 100000
attribute [local go_sem] Option.toList_some Option.toList_none
theorem Fv (p:Pos):p.flat.length=6:=rfl
theorem Zq (p:Pos):p.flat.all AV.isData=true:=by simp[Pos.flat]
@[go_sem] theorem rowO_ren (r:Nat→Nat) (l:List Pos):(aa Pos.flat l).map (AV.ren r)=aa Pos.flat l:=jh (fun x r=>by simp[Pos.flat]) r l
@[go_sem] theorem rowO_nms (p:Nat→Bool) (l:List Pos):(aa Pos.flat l).all (AV.names p)=true:=ji (fun x p=>by simp[Pos.flat]) p l
theorem qJ (l:List Pos):(aa Pos.flat l).length=l.length*6:=dU Fv l
theorem Zr (l:List Pos) (p:Pos):aa Pos.flat (l++[p])=aa Pos.flat l++[int p.gross,int p.shown,int p.paid,int p.back,int p.reserve,bool p.opn]:=by simp[aa,Pos.flat]
theorem Zt (x:Pos) (l:List Pos):aa Pos.flat (x::l)=[int x.gross,int x.shown,int x.paid,int x.back,int x.reserve,bool x.opn]++aa Pos.flat l:=by simp[aa,Pos.flat]
theorem MC {l:List Pos} (h:0<l.length):(aa Pos.flat l=[])↔False:=by
 rw[iff_false,←List.length_eq_zero_iff,qJ]
 omega
theorem Fw {l:List Pos} {i:Nat} {x:Pos} (h:l[i]? =some x):aa Pos.flat l=aa Pos.flat (l.take i)++([int x.gross,int x.shown,int x.paid,int x.back,int x.reserve,bool x.opn]++aa Pos.flat (l.drop (i+1))):=by
 obtain⟨hi,hx⟩:=List.getElem?_eq_some_iff.1 h
 have:l=l.take i++(x::l.drop (i+1)):=by rw[←hx,←List.drop_eq_getElem_cons hi,List.take_append_drop]
 conv=>lhs;rw[this]
 rw[show aa Pos.flat (l.take i++x::l.drop (i+1))=aa Pos.flat (l.take i)++aa Pos.flat (x::l.drop (i+1)) by simp[aa],Zt]
theorem Zu {l:List Pos} {i:Nat} {x:Pos} (h:l[i]? =some x):((aa Pos.flat l).drop (i*6)).take 6=x.flat:=by
 have hi:=(List.getElem?_eq_some_iff.1 h).1
 have hl:(aa Pos.flat (l.take i)).length=i*6:=by rw[qJ,List.length_take,Nat.min_eq_left byOmega]
 rw[Fw h,List.drop_append_of_le_length byOmega,List.drop_of_length_le byOmega,List.nil_append]
 rfl
theorem Zv {l:List Pos} {i j:Nat} {x:Pos} (h:l[i]? =some x) (hj:j<6):(aa Pos.flat l)[i*6+j]? =x.flat[j]? :=by
 have hi:=(List.getElem?_eq_some_iff.1 h).1
 have hl:(aa Pos.flat (l.take i)).length=i*6:=by rw[qJ,List.length_take,Nat.min_eq_left byOmega]
 rw[Fw h,List.getElem?_append_right (by rw[hl];omega),hl,Nat.add_sub_cancel_left,List.getElem?_append_left (by simpa using hj)]
 rfl
theorem ME {l:List Pos} {i j:Nat} {x y:Pos} (h:l[i]? =some x) (hj:j<6) (v:AV) (hv:x.flat.set j v=y.flat):
 List.take (i*6+j) (aa Pos.flat l)++[v]++List.drop (i*6+j+1) (aa Pos.flat l)=aa Pos.flat (l.set i y):=by
 have hi:=(List.getElem?_eq_some_iff.1 h).1
 have hl:(aa Pos.flat (l.take i)).length=i*6:=by rw[qJ,List.length_take,Nat.min_eq_left byOmega]
 have hset:l.set i y=l.take i++y::l.drop (i+1):=List.set_eq_take_append_cons_drop .. |>.trans (if_pos hi)
 have hlen:i*6+j<(aa Pos.flat l).length:=by rw[qJ];omega
 have h1:List.take (i*6+j) (aa Pos.flat l)++[v]++List.drop (i*6+j+1) (aa Pos.flat l)=(aa Pos.flat l).set (i*6+j) v:=by
  rw[List.set_eq_take_append_cons_drop,if_pos hlen]
  simp
 have h2:aa Pos.flat (l.set i y)=aa Pos.flat (l.take i)++(y.flat++aa Pos.flat (l.drop (i+1))):=by rw[hset];simp[aa]
 rw[h1,h2,Fw h,List.set_append_right _ _ (by rw[hl];omega),hl,Nat.add_sub_cancel_left,List.set_append_left _ _ (by simpa using hj),←hv]
 rfl
def iI (P:List Pos) (r:Int×Int×Int):List Pos:=P.set r.1.toNat {P.getD r.1.toNat ⟨0,0,0,0,0,false⟩ with paid:=(P.getD r.1.toNat ⟨0,0,0,0,0,false⟩).paid+r.2.2}
def eZ (c:Cover) (u:Int) (p:Pos):Int:=if p.opn then max 0 (pays c p.gross (u-p.paid)-p.paid) else 0
def iJ (c:Cover):Int→List Pos→List Pos
 |_,[]=>[]
 |u,p::r=>{p with reserve:=if p.opn then eZ c u p else p.reserve}::iJ c (u+eZ c u p) r
def fH (l:List File):List Pos:=l.map fun f=>iq f.acts
def fA (c:Cover) (l:List File):List Pos:=
 if bO c l=0 then iJ c ((bA c l).map fun r=>r.2.2).sum ((bA c l).foldl iI (fH l)) else[]
theorem Zw {c:Cover} {l:List File} (h:bL c l=true):∀i,i≤(bi l).length→∀r,r∈(dX c l.length ((bi l).take i)).out→∃k:Nat,k<l.length∧r.1=(k:Int)∧0<r.2.2∧r.2.2≤1000000000000000:=by
 have hr:c.rightB=true:=by rw[bL,Bool.and_eq_true] at h;exact h.1
 have hPB:=tu hr l.length (L:=bi l) fun x hx=>by obtain⟨_,_,_,_,h⟩:=nK h hx;exact h
 intro i
 induction i with
 |zero=>intro _ r hm;exact absurd hm (by simp[dX,ps0])
 |succ i ih=>
  intro hi
  have e0:(bi l)[i]? =some (bi l)[i]:=List.getElem?_eq_getElem hi
  rw[yA e0]
  obtain⟨k,h1,h2,_⟩:=nK h (List.getElem_mem hi)
  have hP:=hPB i byOmega
  generalize (bi l)[i]=x at *
  have g2:=hP.get2 x.file.toNat
  have ha:=hP.al
  have hcv:=kL.1 hr
  have hb1:=yl (c:=c) hr ((dX c l.length ((bi l).take i)).shown.getD x.file.toNat 0+x.act.amt) (used:=(dX c l.length ((bi l).take i)).all-(dX c l.length ((bi l).take i)).paid.getD x.file.toNat 0) byOmega
  have hb2:=oO (c:=c) hr ((dX c l.length ((bi l).take i)).shown.getD x.file.toNat 0+x.act.amt)
  intro r hm
  unfold lK at hm
  simp only at hm
  split at hm
  ·split at hm
   ·exact ih byOmega r hm
   ·rcases List.mem_append.1 hm with hm|hm
    ·exact ih byOmega r hm
    ·simp only[List.mem_singleton] at hm
     subst hm
     exact⟨k,h1,h2,by simp only;omega,by simp only;omega⟩
  ·exact ih byOmega r hm
theorem rows_ok {c:Cover} {l:List File} (he:bO c l=0):(bA c l).length≤2000∧∀r,r∈bA c l→∃k:Nat,k<l.length∧r.1=(k:Int)∧0<r.2.2∧r.2.2≤1000000000000000:=by
 have har:bL c l=true:=by
  cases h:bL c l with
  |true=>rfl
  |false=>simp[bO,h] at he
 have hn:l.length≤2000∧dm l≤2000:=by
  unfold bO at he
  split at he;·cases he
  split at he;·cases he
  omega
 have hr:c.rightB=true:=by rw[bL,Bool.and_eq_true] at har;exact har.1
 have hPB:=tu hr l.length (L:=bi l) (fun x hx=>by obtain⟨_,_,_,_,h⟩:=nK har hx;exact h) (bi l).length (Nat.le_refl _)
 have ho:=Zw har (bi l).length (Nat.le_refl _)
 rw[List.take_length] at hPB ho
 rw[bA,if_pos he]
 refine⟨?_,ho⟩
 have:=hPB.ou
 rw[Fp] at this
 omega
theorem o8 (c:Cover):∀(P:List Pos) (u:Int),(iJ c u P).length=P.length
 | [],_=>rfl
 |p::r,u=>by rw[iJ,List.length_cons,o8 c r,List.length_cons]
def fI (c:Cover) (u:Int):List Pos→Nat→Int
 |_,0=>u
 | [],_+1=>u
 |p::r,i+1=>fI c (u+eZ c u p) r i
theorem Fx (c:Cover):∀(P:List Pos) (u:Int) (i:Nat) (p:Pos),P[i]? =some p→fI c u P (i+1)=fI c u P i+eZ c (fI c u P i) p
 | [],u,i,p,h=>by simp at h
 |q::r,u,0,p,h=>by simp at h;subst h;simp[fI]
 |q::r,u,i+1,p,h=>by
  rw[fI,Fx c r _ i p (by simpa using h)]
  rfl
def tC (c:Cover) (u:Int) (p:Pos):Pos:={p with reserve:=if p.opn then eZ c u p else p.reserve}
theorem Fy (c:Cover):∀(P:List Pos) (u:Int) (i:Nat) (p:Pos),P[i]? =some p→(iJ c u P)[i]? =some (tC c (fI c u P i) p)
 | [],u,i,p,h=>by simp at h
 |q::r,u,0,p,h=>by simp at h;subst h;simp[iJ,fI,tC]
 |q::r,u,i+1,p,h=>by
  rw[iJ,List.getElem?_cons_succ,Fy c r _ i p (by simpa using h)]
  rfl
def gD (c:Cover) (u:Int) (P:List Pos) (i:Nat):List Pos:=(iJ c u P).take i++P.drop i
theorem Zx (c:Cover) (u:Int) (P:List Pos) (i:Nat):(gD c u P i).length=P.length:=by
 simp[gD,o8];omega
theorem Zy {c:Cover} {u:Int} {P:List Pos} {i:Nat} {p:Pos} (h:P[i]? =some p):(gD c u P i)[i]? =some p:=by
 have hi:=(List.getElem?_eq_some_iff.1 h).1
 rw[gD,List.getElem?_append_right (by simp[o8];omega)]
 simp[o8,Nat.min_eq_left (Nat.le_of_lt hi),h]
theorem Zz {c:Cover} {u:Int} {P:List Pos} {i:Nat} {p:Pos} (h:P[i]? =some p):gD c u P (i+1)=(gD c u P i).set i (tC c (fI c u P i) p):=by
 have hi:=(List.getElem?_eq_some_iff.1 h).1
 have hk:=Fy c P u i p h
 rw[gD,gD,List.take_add_one,hk,List.set_append_right _ _ (by simp[o8];omega)]
 simp[o8,Nat.min_eq_left (Nat.le_of_lt hi)]
 rw[List.drop_eq_getElem_cons hi]
 rfl
theorem MF {c:Cover} (hr:c.rightB=true) (u:Int) (p:Pos) (h0:0≤p.paid):0≤eZ c u p∧eZ c u p≤1000000000000000:=by
 have hcv:=kL.1 hr
 have hw:=oO (c:=c) hr p.gross
 unfold eZ
 split
 ·unfold pays
  split<;>omega
 ·omega
structure AB (n j:Nat) (P:List Pos):Prop where
 len:P.length=n
 pd:∀p,p∈P→0≤p.paid∧p.paid≤j*1000000000000000
 gr:∀p,p∈P→0≤p.gross∧p.gross≤1000000000000000
theorem MG {n j:Nat} {P:List Pos} (h:AB n j P) {k:Nat} (hk:k<n):∃p,P[k]? =some p∧P.getD k ⟨0,0,0,0,0,false⟩=p∧p∈P:=by
 have hl:=h.len
 refine⟨P[k],List.getElem?_eq_getElem byOmega,?_,List.getElem_mem _⟩
 rw[List.getD_eq_getElem?_getD,List.getElem?_eq_getElem byOmega]
 rfl
theorem AB.step {n j:Nat} {P:List Pos} (h:AB n j P) {r:Int×Int×Int} {k:Nat} (hk:k<n) (h1:r.1=(k:Int)) (h2:0<r.2.2∧r.2.2≤1000000000000000):AB n (j+1) (iI P r):=by
 obtain⟨p,p1,p2,p3⟩:=MG h hk
 have g1:=h.pd p p3
 have g2:=h.gr p p3
 unfold iI
 rw[h1,Int.toNat_natCast,p2]
 refine⟨by rw[List.length_set];exact h.len,fun q hq=> ?_,fun q hq=> ?_⟩
 ·rcases List.mem_or_eq_of_mem_set hq with hq|rfl
  ·have:=h.pd q hq;omega
  ·simp only;omega
 ·rcases List.mem_or_eq_of_mem_set hq with hq|rfl
  ·exact h.gr q hq
  ·exact g2
theorem AB.zero {c:Cover} {l:List File} (h:bL c l=true):AB l.length 0 (fH l):=by
 refine⟨by simp[fH],fun p hp=> ?_,fun p hp=> ?_⟩<;>
 ·obtain⟨f,hf,rfl⟩:=List.mem_map.1 hp
  rw[bL,Bool.and_eq_true,List.all_eq_true] at h
  have:=h.2 f hf
  rw[iW,Bool.and_eq_true] at this
  have hg:=u6 this.2
  have h1:=hg.gross
  have h2:=hg.shown
  simp only[iq]
  omega
theorem AB.all {c:Cover} {l:List File} (he:bO c l=0):∀j,j≤(bA c l).length→AB l.length j (((bA c l).take j).foldl iI (fH l)):=by
 have har:bL c l=true:=by
  cases h:bL c l with
  |true=>rfl
  |false=>simp[bO,h] at he
 have ho:=(rows_ok he).2
 intro j
 induction j with
 |zero=>intro _;exact AB.zero har
 |succ j ih=>
  intro hj
  have e0:(bA c l)[j]? =some (bA c l)[j]:=List.getElem?_eq_getElem hj
  obtain⟨k,h1,h2,h3⟩:=ho _ (List.getElem_mem hj)
  rw[List.take_add_one,e0,List.foldl_append]
  exact(ih byOmega).step h1 h2 h3
def bV (R:List (Int×Int×Int)):Int:=(R.map fun r=>r.2.2).sum
theorem MH {R:List (Int×Int×Int)} {j:Nat} {r:Int×Int×Int} (h:R[j]? =some r):bV (R.take (j+1))=bV (R.take j)+r.2.2:=by
 rw[List.take_add_one,h]
 simp[bV]
theorem ZA {R:List (Int×Int×Int)} (h:∀r,r∈R→0<r.2.2∧r.2.2≤1000000000000000):∀j,j≤R.length→0≤bV (R.take j)∧bV (R.take j)≤j*1000000000000000:=by
 intro j
 induction j with
 |zero=>intro _;simp[bV]
 |succ j ih=>
  intro hj
  have e0:R[j]? =some R[j]:=List.getElem?_eq_getElem hj
  have:=ih byOmega
  have h1:=h _ (List.getElem_mem hj)
  rw[MH e0]
  omega
theorem ZB {c:Cover} (hr:c.rightB=true) {P:List Pos} (h:∀p,p∈P→0≤p.paid) {u:Int} (h0:0≤u):∀i,i≤P.length→0≤fI c u P i∧fI c u P i≤u+i*1000000000000000:=by
 intro i
 induction i with
 |zero=>
  intro _
  have:fI c u P 0=u:=by cases P<;>rfl
  rw[this];omega
 |succ i ih=>
  intro hi
  have e0:P[i]? =some P[i]:=List.getElem?_eq_getElem hi
  rw[Fx c P u i _ e0]
  have:=ih byOmega
  have hb:=MF hr (fI c u P i) P[i] (h _ (List.getElem_mem hi))
  omega
end Go.Proofs.YtlikpcpllahalaaGreat.V
namespace Go.Proofs.YtlikpcpllahalaaGreat.V
open Go.RowKit
set_option maxRecDepth 100000
attribute [local go_sem] Option.toList_some Option.toList_none
theorem MI (j n:Nat):(j*6+6≤n*6)=(j<n):=propext ⟨fun h=>by omega,fun h=>by omega⟩
theorem ZC (c:Cover) (u:Int) (P:List Pos):fI c u P 0=u:=by cases P<;>rfl
theorem ZE (c:Cover) (u:Int) (P:List Pos):gD c u P 0=P:=by simp[gD]
theorem ZF (c:Cover) (u:Int) (P:List Pos):gD c u P P.length=iJ c u P:=by
 rw[gD,List.drop_length,List.append_nil,List.take_of_length_le (by rw[o8];omega)]
attribute [local go_sem] Int.reduceToNat Int.toNat_zero in
theorem MJ (c:Cover) (l:List File) (hc:c.ok) (hl:l.length≤100000):Fun Tryz.prog 33 [.agg c.flat,dW l] (.tup [yj (fA c l),int (bO c l)]):=by
 have hpd:=Zm c l hc hl
 by_cases he:bO c l=0
 ·have hof:fA c l=iJ c (bV (bA c l)) ((bA c l).foldl iI (fH l)):=by rw[fA,if_pos he];rfl
  have har:bL c l=true:=by
   cases h:bL c l with
   |true=>rfl
   |false=>simp[bO,h] at he
  have har0:c.rightB=true:=by rw[bL,Bool.and_eq_true] at har;exact har.1
  have hn:l.length≤2000:=by
   unfold bO at he
   split at he;·cases he
   split at he;·cases he
   omega
  obtain⟨hR1,hR2⟩:=rows_ok he
  have hAB:=AB.all he
  have hAm:=ZA (R:=bA c l) fun r hr=>by obtain⟨_,_,_,h⟩:=hR2 r hr;exact h
  have hrl:=Mt har
  rw[he] at hpd
  rcases Nat.eq_zero_or_pos l.length with h0|h0
  ·obtain rfl:=List.length_eq_zero_iff.1 h0
   have hpr:bA c []=[]:=by rw[bA,if_pos he];rfl
   have hof2:fA c []=[]:=by rw[hof,hpr];rfl
   rw[hpr] at hpd
   rw[hof2,he]
   refine af Tryz.func33 fun cx hN hR hF hL=> ?_
   refine' aj tt hpd (V.l3 fun hq=> ?_)
   refine bU 1 ?_
   refine' run tt (V.l3 fun hq=> ?_)
   refine bU 1 ?_
   refine' run tt (V.l3 fun hq=> ?_)
   refine bU 1 ?_
   exact run tt tt
  ·generalize bA c l=R at *
   refine af Tryz.func33 fun cx hN hR hF hL=> ?_
   refine' aj tt hpd (V.l3 fun hq=> ?_)
   refine rH 8 6000 6 49 rfl (Nat.le_of_ble_eq_true rfl) ?_
   refine aX (σ:={i:Nat // i≤l.length}) (fun s=>⟨[(28,int s.1),(8,.osl 6000 6 0 s.1),(26,dW l),(27,int l.length),(6,Fu R),(2,.ptr 0 0)],[(6000,some ⟨49,aa Pos.flat (fH (l.take s.1))⟩),(0,some ⟨44,c.flat⟩)],6001⟩) (fun s=>l.length-s.1) id ⟨0,by omega⟩ ?_ ?_
   ·simp only[go_sem,↓reduceIte,hF]
    exact⟨rfl,rfl⟩
   ·rintro⟨i,h1⟩
    by_cases hi:i<l.length
    ·have e0:l[i]? =some l[i]:=List.getElem?_eq_getElem hi
     have e1:(l.map File.flat)[i]? =some l[i].flat:=by rw[List.getElem?_map,e0];rfl
     have e2:=wS i
     have hk1:i<(l.map File.flat).length:=by simpa using hi
     have hsn:fH (l.take (i+1))=fH (l.take i)++[iq l[i].acts]:=by rw[List.take_succ_eq_append_getElem hi,fH,List.map_append];rfl
     have hst:=Yq l[i] (Nat.le_trans (hrl _ (List.getElem_mem hi)) byOmega)
     have hln:=qJ (fH (l.take i))
     have hln2:(fH (l.take i)).length=i:=by simp[fH];omega
     rw[hln2] at hln
     generalize l[i]=f at *
     refine' aj (I e1 (I e2 hk1)) hst (lv (fun hq=>lf ?_) (lv (fun hq=>o4 fun K hK=> ?_) tt))
     ·refine⟨⟨i+1,hi⟩,eG 6000 8033,?_,mS⟩
      simp only[hsn,Zr]
      simp only[go_sem,↓reduceIte,hF,List.map_append,List.all_append]
     ·exact⟨hln,by simp[maxLen];omega⟩
    ·obtain rfl:i=l.length:=byOmega
     simp only[List.take_length]
     refine' run tt (V.l3 fun hq=> ?_)
     refine aX (σ:={j:Nat // j≤R.length}) (fun s=>⟨[(40,int s.1),(11,int (bV (R.take s.1))),(39,int R.length),(38,Fu R),(8,.osl 6000 6 0 l.length),(2,.ptr 0 0)],[(6000,some ⟨49,aa Pos.flat ((R.take s.1).foldl iI (fH l))⟩),(0,some ⟨44,c.flat⟩)],8001⟩) (fun s=>R.length-s.1) id ⟨0,by omega⟩ ?_ ?_
     ·simp only[go_sem,↓reduceIte,hF]
      exact⟨⟨rfl,rfl⟩,rfl⟩
     ·rintro⟨j,g1⟩
      by_cases gj:j<R.length
      ·have e0:R[j]? =some R[j]:=List.getElem?_eq_getElem gj
       have e1:(R.map iA)[j]? =some (iA R[j]):=by rw[List.getElem?_map,e0];rfl
       have e2:=wS j
       have hk1:j<(R.map iA).length:=by simpa using gj
       obtain⟨k,k1,k2,k3⟩:=hR2 _ (List.getElem_mem gj)
       have hA:=hAB j g1
       have hsn:(R.take (j+1)).foldl iI (fH l)=iI ((R.take j).foldl iI (fH l)) R[j]:=by rw[List.take_succ_eq_append_getElem gj,List.foldl_append];rfl
       have hsm:=MH e0
       have hb1:=hAm j g1
       generalize (R.take j).foldl iI (fH l)=P at *
       generalize R[j]=r at *
       obtain⟨rk,rb,ra⟩:=r
       simp only at k2 k3 hsm
       subst k2
       obtain⟨p,p1,p2,p3⟩:=MG hA k1
       have q1:=hA.pd p p3
       have hl6:=hA.len
       have c1:(aa Pos.flat P)[k*6+2]? =some (int p.paid):=Zv p1 byOmega
       have c2:List.take (k*6+2) (aa Pos.flat P)++[int (p.paid+ra)]++List.drop (k*6+2+1) (aa Pos.flat P)=aa Pos.flat (P.set k {p with paid:=p.paid+ra}):=ME p1 byOmega _ rfl
       have w1:IntKind.i64.wrap (p.paid+ra)=p.paid+ra:=wE
       have w2:IntKind.i64.wrap (bV (R.take j)+ra)=bV (R.take j)+ra:=wE
       have hln:=qJ P
       have z1:=MC (l:=P) byOmega
       have hs2:iI P ((k:Int),rb,ra)=P.set k {p with paid:=p.paid+ra}:=by
        unfold iI
        simp only[Int.toNat_natCast]
        rw[p2]
       rw[hs2] at hsn
       rw[hl6] at hln
       refine' run (I e1 (I e2 (I hk1 (I c1 (I c2 (I w1 (I w2 (I hln (I z1 k1))))))))) (V.l3 fun hq=> ?_)
       refine⟨⟨j+1,gj⟩,id,?_,mS⟩
       simp only[hsn,hsm]
       simp only[go_sem,↓reduceIte,hF]
      ·obtain rfl:j=R.length:=byOmega
       simp only[List.take_length]
       have hA:=hAB R.length (Nat.le_refl _)
       have hu0:=hAm R.length (Nat.le_refl _)
       rw[List.take_length] at hA hu0
       have hub:=ZB (c:=c) har0 (fun p hp=>(hA.pd p hp).1) hu0.1
       generalize R.foldl iI (fH l)=P at *
       have hPl:=hA.len
       refine' run tt (V.l3 fun hq=> ?_)
       refine aX (σ:={i:Nat // i≤l.length}) (fun s=>⟨[(62,int s.1),(11,int (fI c (bV R) P s.1)),(61,int l.length),(60,.osl 6000 6 0 l.length),(8,.osl 6000 6 0 l.length),(2,.ptr 0 0)],[(6000,some ⟨49,aa Pos.flat (gD c (bV R) P s.1)⟩),(0,some ⟨44,c.flat⟩)],9001⟩) (fun s=>l.length-s.1) id ⟨0,by omega⟩ ?_ ?_
       ·simp only[go_sem,↓reduceIte,hF]
        exact⟨⟨rfl,(ZC _ _ _).symm⟩,by rw[ZE]⟩
       ·rintro⟨i,i1⟩
        by_cases hi:i<l.length
        ·have e0:P[i]? =some P[i]:=List.getElem?_eq_getElem byOmega
         have hpm:P[i]∈P:=List.getElem_mem _
         have b1:=Zy (c:=c) (u:=bV R) e0
         have b2:=Zz (c:=c) (u:=bV R) e0
         have b3:=Fx c P (bV R) i _ e0
         have b4:=hub i byOmega
         have b5:=Zx c (bV R) P i
         have e2:=wS i
         generalize P[i]=p at *
         have q1:=hA.pd p hpm
         have q2:=hA.gr p hpm
         have b6:=MF har0 (fI c (bV R) P i) p q1.1
         have e3:=Zu b1
         have hln:=qJ (gD c (bV R) P i)
         have z1:=MC (l:=gD c (bV R) P i) byOmega
         rw[b5,hPl] at hln
         generalize fI c (bV R) P i=u at *
         cases ho:p.opn with
         |false=>
          have b7:eZ c u p=0:=by unfold eZ;rw[ho];rfl
          have b8:tC c u p=p:=by cases p;simp only at ho;subst ho;rfl
          rw[b7,Int.add_zero] at b3
          rw[b8] at b2
          have b9:gD c (bV R) P (i+1)=gD c (bV R) P i:=by
           rw[b2]
           apply List.ext_getElem?
           intro j
           rw[List.getElem?_set]
           split
           ·rename_i h;subst h;rw[b1];simp;omega
           ·rfl
          refine' run (I e2 (I e3 (I hln (I z1 (I hi (I ho MI)))))) (lv (fun hq=>fun hq=>lf ?_) tt)
          refine⟨⟨i+1,hi⟩,id,?_,mS⟩
          simp only[b9,b3]
          simp only[go_sem,↓reduceIte,hF]
         |true=>
          have hcv:=kL.1 har0
          have w1:IntKind.i64.wrap (u-p.paid)=u-p.paid:=wE
          have hpy:=Ff c p.gross (u-p.paid) hc (by unfold Int64;omega) (by unfold Int64;omega)
          have b7:eZ c u p=max 0 (pays c p.gross (u-p.paid)-p.paid):=by unfold eZ;rw[ho];rfl
          have hw:=oO (c:=c) har0 p.gross
          have hpb:0≤pays c p.gross (u-p.paid)∧pays c p.gross (u-p.paid)≤1000000000000000:=by
           unfold pays
           split<;>omega
          have b8:tC c u p={p with reserve:=eZ c u p}:=by unfold tC;rw[ho];rfl
          rw[b8,b7] at b2
          rw[b7] at b3
          generalize pays c p.gross (u-p.paid)=pw at *
          have w2:IntKind.i64.wrap (pw-p.paid)=pw-p.paid:=wE
          have w3:IntKind.i64.wrap (u+max 0 (pw-p.paid))=u+max 0 (pw-p.paid):=wE
          have c2:List.take (i*6+4) (aa Pos.flat (gD c (bV R) P i))++[int (max 0 (pw-p.paid))]++List.drop (i*6+4+1) (aa Pos.flat (gD c (bV R) P i))=aa Pos.flat ((gD c (bV R) P i).set i {p with reserve:=max 0 (pw-p.paid)}):=ME b1 byOmega _ rfl
          refine' aj (I e2 (I e3 (I hln (I z1 (I hi (I ho (I MI (I w1 (I w2 (I w3 c2)))))))))) hpy (lv (fun hq=>fun hq=>lf ?_) tt)
          refine⟨⟨i+1,hi⟩,id,?_,mS⟩
          simp only[b2,b3,ho]
          simp only[go_sem,↓reduceIte,hF]
        ·obtain rfl:i=l.length:=byOmega
         refine' run tt (V.l3 fun hq=> ?_)
         rw[hof,he]
         have hha:=ZF c (bV R) P
         rw[hPl] at hha
         rw[hha]
         have hhl:l.length=(iJ c (bV R) P).length:=by rw[o8,hPl]
         exact⟨⟨⟨hhl,bS Fv _⟩,dR Fv Zq _ hhl⟩,rfl⟩
 ·have hof:fA c l=[]:=by rw[fA,if_neg he]
  have hp:bA c l=[]:=by rw[bA,if_neg he]
  rw[hp] at hpd
  rw[hof]
  refine af Tryz.func33 fun cx hN hR hF hL=> ?_
  exact aj (I (eq_false he) (decide_eq_false he)) hpd tt
end Go.Proofs.YtlikpcpllahalaaGreat.V
