/- Parts of the proof. -/
import Derived.Test.YtlikpcpllahalaaGreatG50
import Derived.Test.YtlikpcpllahalaaGreatG51
import Derived.Test.YtlikpcpllahalaaGreatG20
import Derived.ProofKit
import Derived.OpenShut
import Derived.ChangeOld
import Derived.Carry
import Derived.Deep.Slices
import Derived.Deep.Fields
import Derived.SizedLaws
import Derived.Test.YtlikpcpllahalaaGreatG46
import Derived.Below
set_option linter.unusedSimpArgs false
set_option linter.unusedVariables false
set_option maxHeartbeats 16000000
namespace Go.Proofs.YtlikpcpllahalaaGreat.V
open Go.RowKit
set_option maxRecDepth 100000
theorem aaR {l:List Cover}:∀ {z:Int},oF z l=true→∀c,c∈l→c.right=true:=by
 induction l with
 |nil=>intro z _ c hc;simp at hc
 |cons a l ih=>
  intro z h c hc
  rw[oF] at h
  simp only[Bool.and_eq_true,Bool.not_eq_true',Bool.or_eq_false_iff] at h
  rcases List.mem_cons.1 hc with rfl|hc
  ·have:=h.1.2
   simpa using this
  ·exact ih h.2 c hc
theorem Nv {l:List Cover} (h:qa l=true):∀c,c∈l→c.right=true:=by
 unfold qa at h
 simp only[Bool.and_eq_true] at h
 exact aaR h.1
theorem aaS {c:Change} (h:c.right=true):∀q,q∈c.covers→q.right=true:=by
 unfold Change.right rW at h
 simp only[Bool.and_eq_true] at h
 have h:=h.2
 intro q hq
 split at h
 ·unfold AA at h
  simp_all
 ·split at h
  ·unfold AC at h
   simp only[Bool.and_eq_true] at h
   exact Nv h.1.1 q hq
  ·split at h
   ·unfold AJ at h
    simp_all
   ·split at h
    ·unfold AL at h
     simp_all
    ·simp at h
theorem aaT {t:Terms} (h:t.right=true):∀q,q∈t.covers→q.right=true:=by
 unfold Terms.right at h
 simp only[Bool.and_eq_true] at h
 exact Nv h.2
theorem aaU {c:Cover} (h:c.right=true) (ho:c.ok):c.rightB=true:=by
 rw[←L8 ho]
 exact h
theorem Nw {h:History} {T:List Version} {c:Claim} {q:Cover} (hx:dZ h T c=(0,some q)):c.right=true∧c.loss≤c.booked∧c.policy=h.id∧kE h T c.booked=0∧∃sl,nk (kS h T c.booked) c.loss=some sl∧sl.st.on=true∧nI sl.st.covers c.peril=some q:=by
 unfold dZ at hx
 split at hx
 ·rename_i h1
  split at hx
  ·rename_i h2
   split at hx
   ·rename_i h3
    split at hx
    ·rename_i h4
     split at hx
     ·rename_i sl h5
      split at hx
      ·rename_i h6
       split at hx
       ·rename_i x h7
        injection hx with _ hx
        injection hx with hx
        subst hx
        exact⟨h1,h2,h3,h4,sl,h5,h6,h7⟩
       ·injection hx with hx;exact absurd hx (by decide)
      ·injection hx with hx;exact absurd hx (by decide)
     ·injection hx with hx;exact absurd hx (by decide)
    ·injection hx with _ h2;exact absurd h2 ai
   ·injection hx with hx;exact absurd hx (by decide)
  ·injection hx with hx;exact absurd hx (by decide)
 ·injection hx with hx;exact absurd hx (by decide)
theorem aaV {h:History} {T:List Version} {c:Claim} {q:Cover} (hx:dZ h T c=(0,some q)) (h0:∀c,c∈h.terms.covers→c.ok) (h1:∀x,x∈h.changes→∀c,c∈x.covers→c.ok):q.ok∧q.rightB=true∧q.peril=c.peril:=by
 obtain⟨-,-,-,he,sl,hs,-,hf⟩:=Nw hx
 unfold kE at he
 unfold kS at hs
 split at he
 ·exact absurd he (by decide)
 ·rename_i hb
  rw[if_neg hb] at hs
  obtain⟨hr,v,-,hS⟩:=Bg he
  have hm:=List.mem_of_find?_eq_some hs
  rw[hS,List.mem_map] at hm
  obtain⟨x,hx,rfl⟩:=hm
  obtain⟨hr1,-,hr2⟩:=uT.1 hr
  have hP:=EI (P:=fun l=>∀c,c∈l→c.ok∧c.right=true) hr (fun c hc=>⟨h0 c hc,aaT hr1 c hc⟩) (fun y hy c hc=>⟨h1 y (List.mem_filter.1 hy).1 c hc,aaS (hr2 y hy).1 c hc⟩) x hx
  have hq:=hP q (List.mem_of_find?_eq_some hf)
  have hp:=List.find?_some hf
  exact⟨hq.1,aaU hq.2 hq.1,of_decide_eq_true hp⟩
theorem aaW {c:Claim} (h:c.right=true):c.formedB=true:=by
 unfold Claim.right vg BA at h
 unfold Claim.formedB
 simp only[Bool.and_eq_true,Bool.or_eq_true,decide_eq_true_eq,EO] at h ⊢
 omega
theorem Ny {s:Stt} (h:Mk s) (id:Int):(∀c,c∈(s.his id).terms.covers→c.ok)∧∀x,x∈(s.his id).changes→∀c,c∈x.covers→c.ok:=by
 unfold Stt.his
 split
 ·rename_i a ha
  exact h.cov a (List.mem_of_find?_eq_some ha)
 ·simp[bg,fG]
structure Grp (s:Stt) (g:Gr):Prop where
 ok:g.cover.ok
 right:g.cover.rightB=true
 chk:bO g.cover (aR s g.at_)=0
 len:(aR s g.at_).length=g.at_.length
theorem aaX {n:Nat} {T:List Version} {s:Stt} {G:List Gr} (hn:n≤40) (hs:Sz n T s) (hk:Mk s) (hg:GP s s.files.length G) (ho:GrOk s.files.length G) {g:Gr} (hm:g∈G):Grp s g:=by
 have key:∀j,j∈g.at_→∃f,s.files[j.toNat]? =some f∧g.cover.ok∧g.cover.rightB=true∧iW g.cover.peril f=true:=fun j hj=>by
  obtain⟨f,hf,-,hc⟩:=hg.ok g hm j hj
  have hx:dZ (s.his f.claim.policy) s.tariff f.claim=(0,some g.cover):=hc
  have h1:=aaV hx (Ny hk _).1 (Ny hk _).2
  refine⟨f,hf,h1.1,h1.2.1,?_⟩
  rw[iW,aaW (Nw hx).1,hk.made f (List.mem_of_getElem? hf),h1.2.2]
  simp
 obtain⟨j,hj⟩:=List.exists_mem_of_ne_nil _ (ho.ne g hm)
 obtain⟨-,-,h1,h2,-⟩:=key j hj
 have hl:(aR s g.at_).length=g.at_.length:=yC fun j hj=>by
  obtain⟨f,hf,-⟩:=key j hj
  exact⟨f,hf⟩
 have hmem:∀f,f∈aR s g.at_→iW g.cover.peril f=true∧f.acts.length≤n:=fun f hf=>by
  obtain⟨j,hj,hfj⟩:=aaC hf
  obtain⟨f',hf',-,-,h⟩:=key j hj
  rw[hfj] at hf'
  injection hf' with hf'
  subst hf'
  exact⟨h,hs.act f (List.mem_of_getElem? hfj)⟩
 refine⟨h1,h2,?_,hl⟩
 have ha:=Ms (aR s g.at_) n fun f hf=>(hmem f hf).2
 have hal:=ho.a g hm
 have hfl:=hs.fil
 have hb:(aR s g.at_).length*n≤40*40:=Nat.mul_le_mul byOmega hn
 have hr:bL g.cover (aR s g.at_)=true:=by
  rw[bL,h2,Bool.true_and,List.all_eq_true]
  exact fun f hf=>(hmem f hf).1
 unfold bO
 rw[if_neg (by rw[hr];simp),if_neg byOmega]
theorem aaY {n:Nat} {T:List Version} {s:Stt} (hn:n≤40) (hs:Sz n T s) (hk:Mk s) (he:(eO s).1=0):(nO s).1=0∧(nO s).2.length=s.files.length∧∀g,g∈(eO s).2→Grp s g∧∀(m:Nat) (k:Int) (p:Pos),g.at_[m]? =some k→(fA g.cover (aR s g.at_))[m]? =some p→(nO s).2[k.toNat]? =some p:=by
 obtain⟨hg,ho⟩:=FZ he
 have hG:=fun g hm=>aaX hn hs hk hg ho (g:=g) hm
 have h:=Nj (s:=s) (l:=(eO s).2) (out:=List.replicate s.files.length vM) (fun g hm=>(hG g hm).chk) hg.nd (fun k hk=>by
  have:=hg.rg k hk
  rw[List.length_replicate]
  omega)
 unfold nO
 rw[if_pos he]
 exact⟨h.1,by rw[h.2.1,List.length_replicate],fun g hm=>⟨hG g hm,h.2.2 g hm⟩⟩
end Go.Proofs.YtlikpcpllahalaaGreat.V
namespace Go.Proofs.YtlikpcpllahalaaGreat.V
open Go.RowKit
set_option maxRecDepth 100000
attribute [local go_sem] Option.toList_some Option.toList_none Int.reduceEq Int.reduceNe
noncomputable def yE (j:Journal) (on:Int):Stt:=lT on ⟨j.tariff,[],[],[],0⟩ j.facts
theorem aaZ (j:Journal) (on:Int) (hl:j.facts.length≤1000000000000) (h:qQ j 25=false):Fun Tryz.prog 10 [.agg j.flat,int on] (.tup [fP,bool false]):=by
 have k:=MP j 25 hl
 rw[h] at k
 unfold fP
 refine af Tryz.func10 fun cx hN hR hF hL=> ?_
 exact aj tt k tt
theorem aa0 (j:Journal) (on:Int) (h:qQ j 25=true):Fun Tryz.prog 10 [.agg j.flat,int on] (.tup [.agg (yE j on).flat,bool true]):=by
 obtain⟨h1,h2,h3⟩:=MQ h
 have k:=MP j 25 byOmega
 have ko:=aaf j on byOmega h1 h3
 rw[h] at k
 unfold yE
 refine af Tryz.func10 fun cx hN hR hF hL=> ?_
 exact aj tt (I k ko) tt
theorem aa1 {j:Journal} {on:Int} (h:qQ j 25=true):TSz j.tariff∧Sz 25 j.tariff (yE j on):=by
 obtain⟨h1,h2,h3⟩:=MQ h
 have:=Sz.of (T:=j.tariff) (on:=on) h3 j.facts.length (Nat.le_refl _)
 rw[List.take_length] at this
 exact⟨h1,this.mono byOmega⟩
theorem aa2 (ka:Fun Tryz.prog 11 [] (bool true)) (j:Journal) (on:Int) (hl:j.facts.length≤1000000000000) (ho:∀f,f∈j.facts→f.terms.ok∧f.change.ok):Fun Tryz.prog 3 [.agg j.flat,int on] (bool true):=by
 cases hw:qQ j 25 with
 |false=>
  have kc:=aaZ j on hl hw
  unfold fP at kc
  refine af Tryz.func3 fun cx hN hR hF hL=> ?_
  exact aj tt (I kc ka) tt
 |true=>
  have kc:=aa0 j on hw
  obtain⟨hT,hs⟩:=aa1 (on:=on) hw
  have hk:Mk (yE j on):=Mk.of ho
  generalize yE j on=s at *
  have kg:=aaQ byOmega hT hs
  by_cases he:(eO s).1=0
  ·obtain⟨h1,h2,h3⟩:=aaY byOmega hs hk he
   have kf:=Nn byOmega hT hs (fun g hg=>(h3 g hg).1.ok)
   have hgp:=FZ he
   rw[h1] at kf
   rw[decide_eq_true he] at kg
   unfold vT at kg
   rw[if_pos he] at kg
   generalize (eO s).2=G at *
   generalize (nO s).2=P at *
   have hfl:=hs.fil
   have hGl:=hgp.2.l
   have hlP:((P.length:Int)=(s.files.length:Int))=True:=by simp[h2]
   refine af Tryz.func3 fun cx hN hR hF hL=> ?_
   refine' aj (I hlP (decide_eq_true (of_eq_true hlP))) (I kc (I kf (I kg ka))) (lv (fun hq=>fun hq=>fun hq=>lf ?_) tt)
   refine aX (σ:={i:Nat // i≤G.length}) (fun i=>⟨[(57,int i.1),(56,int G.length),(55,F3 s G),(7,yj P),(4,bool false)],[],8000⟩) (fun i=>G.length-i.1) id ⟨0,by omega⟩ ?_ ?_
   ·simp only[go_sem,↓reduceIte,hF]
    all_goals rfl
   ·rintro⟨i,hi0⟩
    simp only
    by_cases hi:i<G.length
    ·have e1:(G.map (nP s))[i]? =some (nP s G[i]):=by rw[List.getElem?_map,List.getElem?_eq_getElem hi];rfl
     have e2:=wS i
     have hm:=List.getElem_mem hi
     obtain⟨hG,hget⟩:=h3 _ hm
     have hgl:=hgp.2.a _ hm
     have hgr:∀x,x∈G[i].at_→0≤x∧x<s.files.length:=fun x hx=>hgp.1.rg x (List.mem_flatMap.2 ⟨_,hm,hx⟩)
     generalize G[i]=g at *
     simp only[nP] at e1
     have hqn:(fA g.cover (aR s g.at_)).length=g.at_.length:=by rw[FV hG.chk,hG.len]
     have hb:=fun p hp=>aaB hG.chk (p:=p) hp
     have hsm:=aay hG.chk
     have hcv:=kL.1 hG.right
     have hsp:=aaA (P:=fA g.cover (aR s g.at_)) fun p hp=>⟨(hb p hp).1,(hb p hp).2.1⟩
     generalize fA g.cover (aR s g.at_)=Q at *
     refine' run (I e1 e2) (V.l3 fun hq=> ?_)
     refine aX (σ:={m:Nat // m≤g.at_.length}) (fun m=>⟨[(13,int (fB (Q.take m.1))),(64,int m.1),(62,ints g.at_),(63,int g.at_.length),(12,.ptr 9016 0),(57,int i),(56,int G.length),(55,F3 s G),(7,yj P),(4,bool false)],[(9016,some ⟨47,nP s g⟩)],12000⟩) (fun m=>g.at_.length-m.1) id ⟨0,by omega⟩ ?_ ?_
     ·simp only[go_sem,↓reduceIte,hF,nP]
      exact⟨rfl,rfl⟩
     ·rintro⟨m,hm0⟩
      simp only
      unfold nP
      by_cases hm2:m<g.at_.length
      ·have d0:g.at_[m]? =some g.at_[m]:=List.getElem?_eq_getElem hm2
       obtain⟨kn,hkn⟩:∃kn:Nat,g.at_[m]=(kn:Int):=⟨g.at_[m].toNat,by have:=hgr _ (List.getElem_mem hm2);omega⟩
       have hkl:kn<s.files.length:=by have:=hgr _ (List.getElem_mem hm2);omega
       have d1:(g.at_.map ak)[m]? =some [int kn]:=by rw[List.getElem?_map,d0,hkn];rfl
       have d2:=wS m
       have q0:Q[m]? =some (Q[m]'byOmega):=List.getElem?_eq_getElem _
       have q1:=hget m _ _ d0 q0
       rw[hkn,Int.toNat_natCast] at q1
       have d3:(P.map Pos.flat)[kn]? =some (Q[m]'byOmega).flat:=by rw[List.getElem?_map,q1];rfl
       have qb:=hb _ (List.getElem_mem (show m<Q.length by omega))
       have t1:=aaz q0
       have t2:=hsp m
       have t3:=hsp (m+1)
       have b1:((kn:Int)<(P.length:Int))=True:=eT
       have b2:(0≤(kn:Int))=True:=eT
       generalize (Q[m]'byOmega)=p at *
       have hpy:=Ff g.cover p.gross 0 hG.ok (by unfold Int64;omega) (by unfold Int64;omega)
       rw[aau hG.right qb.2.2.2.2.1] at hpy
       have hw:=oO (c:=g.cover) hG.right p.gross
       generalize gT g.cover p.gross=wg at *
       obtain⟨p1,p2,p3,p4,p5,p6⟩:=p
       simp only at qb t1 hpy hw
       have w1:IntKind.i64.wrap (p3+p5)=p3+p5:=wE
       have w2:IntKind.i64.wrap (fB (Q.take m)+(p3+p5))=fB (Q.take m)+(p3+p5):=wE
       have c1:(p3<0)=False:=eF
       have c2:(p5<0)=False:=eF
       have c3:(wg<p3+p5)=False:=eF
       refine' aj (I d1 (I d2 (I d3 (I b1 (I b2 (I w1 (I w2 (I c1 (I c2 (I c3 (I (decide_eq_false (of_eq_false c1)) (I (decide_eq_false (of_eq_false c2)) (decide_eq_false (of_eq_false c3)))))))))))))) hpy (lv (fun hq=>fun hq=>lf ?_) tt)
       refine⟨⟨m+1,hm2⟩,id,?_,mS⟩
       simp only[t1]
       simp only[go_sem,↓reduceIte,hF,nP]
      ·obtain rfl:m=g.at_.length:=byOmega
       have t9:Q.take g.at_.length=Q:=by rw[←hqn];exact List.take_length
       rw[t9]
       have c4:(g.cover.agg<fB Q)=False:=eF
       refine' run (I e2 (I c4 (decide_eq_false (of_eq_false c4)))) (lv (fun hq=>fun hq=>lf ?_) tt)
       refine⟨⟨i+1,hi⟩,id,?_,mS⟩
       simp only[go_sem,↓reduceIte,hF]
    ·obtain rfl:i=G.length:=byOmega
     exact aj tt ka tt
  ·have kf:=Nn byOmega hT hs (by rw[Nl he];simp)
   have hX:nO s=((eO s).1,[]):=by unfold nO;rw[if_neg he]
   rw[hX] at kf
   rw[decide_eq_false he] at kg
   unfold vT at kg
   rw[if_neg he] at kg
   generalize (eO s).1=e at *
   refine af Tryz.func3 fun cx hN hR hF hL=> ?_
   exact aj (I (eq_false he) (decide_eq_false he)) (I kc (I kf (I kg ka))) tt
end Go.Proofs.YtlikpcpllahalaaGreat.V
namespace Go.Proofs.YtlikpcpllahalaaGreat.V
open Go.ChangeShapes Go.WideShapes Go.ChangeAt Go.RowKit Go.Deep
def Terms.fit (t:Terms):Prop:=t.covers.length≤1000000000000000
def Change.fit (t:Change):Prop:=t.covers.length≤1000000000000000
theorem own:ownKnob Tryz.prog.godebug=none:=aA
theorem laidOut:laidOutB Tryz.prog=true:=aA
def Fits {H:Type} (t:TypeId) (d:DataW H):Prop:=(d.weights Tryz.prog t).all (·≤reachBytes)=true
theorem Fits.part {H:Type} {ts:List TypeId} {ds:List (DataW H)} (h:(DataW.weightsEach Tryz.prog ts ds).all (·≤reachBytes)=true) {j:Nat} {t:TypeId} {d:DataW H} (ht:ts[j]? =some t) (hd:ds[j]? =some d):Fits t d:=
 List.all_eq_true.2 fun n hn=>List.all_eq_true.1 h n (DataW.weights_mem_each ht hd n hn)
theorem F6 {H:Type} {e:TypeId}:∀ {ds:List (DataW H)} {d:DataW H},d∈ds→∀n∈d.weights Tryz.prog e,n∈DataW.weightsAll Tryz.prog e ds
 |d0::r,d,hd,n,hn=>by
  simp only[DataW.weightsAll,List.mem_append]
  rcases List.mem_cons.1 hd with rfl|h
  ·exact Or.inl hn
  ·exact Or.inr (F6 h n hn)
def Rd (W:World) (t:TypeId) (cs:List Value):Prop:=∃(H:Type) (enc:TypeId×Value→H) (fuel:Nat) (x:DataW H×List MemPlace),DataW.trod enc Tryz.prog W 0 (fun _=>true) true fuel t cs=some x∧Fits t x.1
theorem Rd.of {H:Type} {enc:TypeId×Value→H} {W:World} {t:TypeId} {v:Value} {d:DataW H} {p:List MemPlace} (h:DataW.Trod enc Tryz.prog W 0 (fun _=>true) true t v d p) (hs:Fits t d):Rd W t v.cells.toList:=by
 obtain⟨fuel,hf⟩:=h
 exact⟨H,enc,fuel,_,hf,hs⟩
theorem Rd.int {W:World} {t:TypeId} {k:IntKind} {cs:List Value} (ht:Tryz.prog.underlying t=some (.int k)) (h:Rd W t cs):∃n,cs=[.int k n]∧(Lit.int k n).wf=true:=by
 obtain⟨H,enc,fuel,x,hf,-⟩:=h
 obtain⟨n,hc,-,hw⟩:=DataW.trod_int ht hf
 exact⟨n,hc,hw⟩
theorem Rd.struct {W:World} {t:TypeId} {fs:Array Field} {cs:List Value} (ht:Tryz.prog.underlying t=some (.struct fs)) (h:Rd W t cs):
 cs.length=Tryz.prog.cellsOf t∧∀(i:Nat) (f:Field),fs[i]? =some f→Rd W f.type ((cs.drop f.offset).take (Tryz.prog.cellsOf f.type)):=by
 obtain⟨H,enc,fuel,x,hf,hs⟩:=h
 obtain⟨xs,n,-,hx,hl,hxl,hg⟩:=DataW.trod_struct ht hf
 refine⟨hl,fun i f hi=> ?_⟩
 have hi':i<xs.length:=by rw[hxl];exact(Array.getElem?_eq_some_iff.1 hi).1
 refine⟨H,enc,n,xs[i],(hg i f hi).trans (List.getElem?_eq_getElem hi'),?_⟩
 subst hx
 have h2:(DataW.weightsEach Tryz.prog (fs.toList.map (·.type)) (xs.map (·.1))).all (·≤reachBytes)=true:=by simpa[Fits,DataW.weights,ht] using hs
 exact Fits.part h2 (j:=i) (by simp[hi]) (by simp[List.getElem?_eq_getElem hi'])
theorem Rd.rows {α:Type} {W:World} {t e:TypeId} {k:Nat} {R:List Value→α→Prop} {cs:List Value} (ht:Tryz.prog.underlying t=some (.slice e)) (hk:Tryz.prog.cellsOf e=k) (hk0:0<k) (h:Rd W t cs)
 (hR:∀vs,vs.length=k→Rd W e vs→∃x,R vs x):
 ∃(A:Option Addr) (n cap:Nat) (l:List α),cs=[.slice A n cap]∧n=l.length∧n≤maxLen∧(l≠ []→∃b off,A=some ⟨b,off,none⟩∧b<W.heap.size∧∀i y,l[i]? =some y→∃vs,R vs y∧vs.length=k∧∀j v,vs[j]? =some v→W.cell? ⟨b,off+i*k+j,none⟩=some v)∧(n≤cap∧cap≤maxLen)∧n*Tryz.prog.bytesOf e≤reachBytes:=by
 obtain⟨H,enc,fuel,x,hf,hs⟩:=h
 rcases open_slice ht hf with⟨hc,-⟩|⟨a,len,cap,m,n,D,Pl,hc,-,hlc,hcm,hm,hx,hi⟩
 ·exact⟨none,0,0,[],hc,rfl,Nat.zero_le _,fun h=>absurd rfl h,⟨Nat.le_refl _,Nat.zero_le _⟩,by simp⟩
 ·rw[hk] at hi
  have hml:len≤m:=by rw[hm];split<;>omega
  have hbytes:len*Tryz.prog.bytesOf e≤reachBytes:=by
   subst hx
   simp only[Fits,DataW.weights,ht,List.all_cons,Bool.and_eq_true,decide_eq_true_eq] at hs
   have h1:=hs.1
   simp only[List.length_map,List.length_range] at h1
   exact Nat.le_trans (Nat.mul_le_mul_right _ byOmega) h1
  have hfit:∀i,i<len→Fits e (D i):=by
   intro i hil
   subst hx
   simp only[Fits,DataW.weights,ht,List.all_cons,Bool.and_eq_true,List.all_append] at hs
   exact List.all_eq_true.2 fun n hn=>List.all_eq_true.1 hs.2.1 n (F6 (List.mem_map.2 ⟨i,List.mem_range.2 hil,rfl⟩) n hn)
  have hi':∀i,i<len→∃y vs,R vs y∧vs.length=k∧∀j v,vs[j]? =some v→W.cell? (a.add (i*k+j))=some v:=by
   intro i hil
   obtain⟨cs',hcs,ht'⟩:=hi i (by rw[hm];split<;>omega)
   obtain⟨-,hl,hat⟩:=World.cells?_some hcs
   obtain⟨y,hy⟩:=hR cs' hl ⟨H,enc,n,_,ht',hfit i hil⟩
   refine⟨y,cs',hy,hl,fun j v hj=> ?_⟩
   have hjl:j<cs'.length:=(List.getElem?_eq_some_iff.1 hj).1
   have:=hat j byOmega
   rw[hj] at this
   rw[←this,←add_add]
  have hl':∃l:List α,l.length=len∧∀i y,l[i]? =some y→∃vs,R vs y∧vs.length=k∧∀j v,vs[j]? =some v→W.cell? (a.add (i*k+j))=some v:=by
   have H:∀m,m≤len→∃l:List α,l.length=m∧∀i y,l[i]? =some y→∃vs,R vs y∧vs.length=k∧∀j v,vs[j]? =some v→W.cell? (a.add (i*k+j))=some v:=by
    intro m
    induction m with
    |zero=>exact fun _=>⟨[],rfl,fun i y h=>by simp at h⟩
    |succ m ih=>
     intro hml
     obtain⟨l,hll,hl⟩:=ih byOmega
     obtain⟨y,hy⟩:=hi' m byOmega
     refine⟨l++[y],by simp[hll],fun i z hz=> ?_⟩
     rcases Nat.lt_or_ge i l.length with hlt|hge
     ·rw[List.getElem?_append_left hlt] at hz
      exact hl i z hz
     ·rw[List.getElem?_append_right hge] at hz
      have hi0:i-l.length=0:=by
       rcases Nat.eq_zero_or_pos (i-l.length) with h|h
       ·exact h
       ·rw[List.getElem?_eq_none (by simp;omega)] at hz
        cases hz
      rw[hi0] at hz
      have:y=z:=by simpa using hz
      subst this
      obtain rfl:i=m:=byOmega
      exact hy
   exact H len (Nat.le_refl _)
  obtain⟨l,hll,hl⟩:=hl'
  refine⟨some a,len,cap,l,hc,hll.symm,by omega,fun hne=> ?_,⟨hlc,hcm⟩,hbytes⟩
  have h0:0<l.length:=List.length_pos_iff.2 hne
  obtain⟨vs,-,hvl,hv⟩:=hl 0 _ (List.getElem?_eq_getElem h0)
  obtain⟨v0,hv0⟩:∃v,vs[0]? =some v:=⟨_,List.getElem?_eq_getElem byOmega⟩
  have hc0:=hv 0 v0 hv0
  have hsp:a.spot=none:=by simpa[Addr.add] using World.cell?_spot hc0
  obtain⟨b,off,sp⟩:=a
  simp only at hsp
  subst hsp
  refine⟨b,off,rfl,?_,fun i y hy=> ?_⟩
  ·have:=World.block_lt_of_cell? W _ hc0
   simpa[Addr.add] using this
  ·obtain⟨vs,h1,h2,h3⟩:=hl i y hy
   refine⟨vs,h1,h2,fun j v hj=> ?_⟩
   have:=h3 j v hj
   have e:(⟨b,off,none⟩:Addr).add (i*k+j)=⟨b,off+i*k+j,none⟩:=by
    unfold Addr.add
    split
    ·simp_all
    ·simp[Nat.add_assoc]
   rwa [e] at this
theorem Nz:Tryz.prog.cellsOf 3=1:=aA
theorem Rd.field {W:World} {t:TypeId} {fs:Array Field} {vs:List Value} (ht:Tryz.prog.underlying t=some (.struct fs)) (h:Rd W t vs) (i:Nat) (f:Field) (hi:fs[i]? =some f) {t':TypeId} {o k:Nat} (hty:f.type=t') (ho:f.offset=o)
 (hk:Tryz.prog.cellsOf t'=k):Rd W t' ((vs.drop o).take k):=by
 subst hty ho hk
 exact(Rd.struct ht h).2 i f hi
theorem Rd.field_int {W:World} {t:TypeId} {fs:Array Field} {vs:List Value} (ht:Tryz.prog.underlying t=some (.struct fs)) (h:Rd W t vs) (i:Nat) (f:Field) (hi:fs[i]? =some f) (hty:f.type=3) {c:Value} (hc:vs[f.offset]? =some c):
 ∃n,c= .int .i64 n∧(Lit.int .i64 n).wf=true:=by
 obtain⟨-,hf⟩:=Rd.struct ht h
 have h1:=hf i f hi
 rw[hty,Nz] at h1
 obtain⟨n,hn,hw⟩:=Rd.int Tryz.underlying3 h1
 refine⟨n,?_,hw⟩
 obtain⟨ho,hc'⟩:=List.getElem?_eq_some_iff.1 hc
 rw[List.drop_eq_getElem_cons ho,List.take_succ_cons,List.take_zero] at hn
 rw[←hc']
 simpa using hn
def RepL (W:World) (vs:List Value) (l:List AV):Prop:=vs.length=l.length∧∀(i:Nat) (v:Value) (y:AV),vs[i]? =some v→l[i]? =some y→v.oneCell'=true∧RepD (fun _=>False) W v y
def Reads (t:TypeId) (k:Nat) {α:Type} (F:α→List AV) (ok:α→Prop):Prop:=∀(W:World) (vs:List Value),vs.length=k→Rd W t vs→∃x,ok x∧RepL W vs (F x)
theorem RepL.cons {W:World} {v:Value} {y:AV} {vs:List Value} {l:List AV} (h1:v.oneCell'=true) (h2:RepD (fun _=>False) W v y) (h:RepL W vs l):RepL W (v::vs) (y::l):=by
 refine⟨by simp[h.1],fun i u z hu hz=> ?_⟩
 rcases i with _|i
 ·simp at hu hz;subst hu hz;exact⟨h1,h2⟩
 ·exact h.2 i u z (by simpa using hu) (by simpa using hz)
theorem RepL.nil {W:World}:RepL W [] []:=⟨rfl,by simp⟩
theorem RepL.app {W:World} {us vs:List Value} {l m:List AV} (h:RepL W us l) (h2:RepL W vs m):RepL W (us++vs) (l++m):=by
 refine⟨by simp[h.1,h2.1],fun i u z hu hz=> ?_⟩
 by_cases hi:i<us.length
 ·rw[List.getElem?_append_left hi] at hu
  rw[List.getElem?_append_left (by rw[←h.1];exact hi)] at hz
  exact h.2 i u z hu hz
 ·rw[List.getElem?_append_right byOmega] at hu
  rw[List.getElem?_append_right (by rw[←h.1];omega),←h.1] at hz
  exact h2.2 _ u z hu hz
theorem gV {n:Int} (h:(Lit.int .i64 n).wf=true):Int64 n:=by
 simp[Lit.wf] at h
 unfold Int64
 revert h
 simp[IntKind.has,IntKind.min,IntKind.max,IntKind.signed,IntKind.bits]
theorem aa3:Reads 3 1 (fun n:Int=>[int n]) Int64:=by
 intro W vs hl h
 obtain⟨n,rfl,hw⟩:=Rd.int Tryz.underlying3 h
 exact⟨n,gV hw,RepL.cons rfl (.v _) .nil⟩
theorem yF {α:Type} {t e:TypeId} {k:Nat} {F:α→List AV} {ok:α→Prop} (ht:Tryz.prog.underlying t=some (.slice e)) (hk:Tryz.prog.cellsOf e=k) (hk0:0<k) (hF:∀x,(F x).length=k) (hR:Reads e k F ok):
 Reads t 1 (fun l:List α=>[AV.sl false k (l.map F)]) (fun l=>(∀x,x∈l→ok x)∧l.length*Tryz.prog.bytesOf e≤reachBytes):=by
 intro W vs hl h
 obtain⟨A,n,cap,l,rfl,hn,hm,hr,⟨hnc,hcm⟩,hby⟩:=Rd.rows (R:=fun vs x=>ok x∧RepL W vs (F x)) ht hk hk0 h (fun vs hv h=>hR W vs hv h)
 have hok:∀x,x∈l→ok x:=by
  intro x hx
  obtain⟨i,hi⟩:=List.mem_iff_getElem?.1 hx
  obtain⟨b,off,-,-,hb⟩:=hr (by rintro rfl;simp at hx)
  obtain⟨vs,h1,-⟩:=hb i x hi
  exact h1.1
 refine⟨l,⟨hok,by rw[←hn];exact hby⟩,RepL.cons rfl ?_ .nil⟩
 by_cases hne:l=[]
 ·subst hne
  exact .sl (b:=0) (off:=0) (x:=fun _ _=>undef) (by simpa using hn) hnc hcm ai ai ai ai ai
 ·obtain⟨b,off,rfl,hb,hc⟩:=hr hne
  have key:∀i,∃vs:List Value,∀x,l[i]? =some x→RepL W vs (F x)∧vs.length=k∧∀j v,vs[j]? =some v→W.cell? ⟨b,off+i*k+j,none⟩=some v:=by
   intro i
   cases hx:l[i]? with
   |none=>exact⟨[],by simp⟩
   |some x=>
    obtain⟨vs,h1,h2,h3⟩:=hc i x hx
    exact⟨vs,fun y hy=>by injection hy with hy;subst hy;exact⟨h1.2,h2,h3⟩⟩
  obtain⟨cs,hcs⟩:=Classical.axiomOfChoice key
  refine .sl (b:=b) (off:=off) (x:=fun i j=>(cs i).getD j undef) (by simpa using hn) hnc hcm ai ?_ (fun _=>⟨rfl,fun h=>h,hb⟩) ?_ ?_
  ·intro r hr
   obtain⟨x,-,rfl⟩:=List.mem_map.1 hr
   exact hF x
  ·intro i j hi hj
   rw[List.length_map] at hi
   obtain⟨h1,h2,h3⟩:=hcs i _ (List.getElem?_eq_getElem hi)
   have hjl:j<(cs i).length:=byOmega
   have e:(cs i).getD j undef=(cs i)[j]:=by simp[List.getD,hjl]
   refine⟨by rw[e];exact h3 j _ (List.getElem?_eq_getElem hjl),?_⟩
   rw[e]
   exact(h1.2 j _ _ (List.getElem?_eq_getElem hjl) (List.getElem?_eq_getElem (by rw[←h1.1];exact hjl))).1
  ·intro i row j y hrow hy
   rw[List.getElem?_map,Option.map_eq_some_iff] at hrow
   obtain⟨x,hx,rfl⟩:=hrow
   obtain⟨h1,h2,h3⟩:=hcs i x hx
   have hjl:j<(cs i).length:=by rw[h1.1];exact(List.getElem?_eq_some_iff.1 hy).1
   have e:(cs i).getD j undef=(cs i)[j]:=by simp[List.getD,hjl]
   rw[e]
   exact(h1.2 j _ _ (List.getElem?_eq_getElem hjl) hy).2
theorem aa4:Reads 44 5 Cover.flat Cover.ok:=by
 intro W vs hl h
 match vs,hl with
 | [c0,c1,c2,c3,c4],_=>
   obtain⟨x0,rfl,w0⟩:=Rd.field_int Tryz.underlying44 h 0 _ rfl rfl (c:=c0) rfl
   obtain⟨x1,rfl,w1⟩:=Rd.field_int Tryz.underlying44 h 1 _ rfl rfl (c:=c1) rfl
   obtain⟨x2,rfl,w2⟩:=Rd.field_int Tryz.underlying44 h 2 _ rfl rfl (c:=c2) rfl
   obtain⟨x3,rfl,w3⟩:=Rd.field_int Tryz.underlying44 h 3 _ rfl rfl (c:=c3) rfl
   obtain⟨x4,rfl,w4⟩:=Rd.field_int Tryz.underlying44 h 4 _ rfl rfl (c:=c4) rfl
   exact⟨⟨x0,x1,x2,x3,x4⟩,⟨gV w0,gV w1,gV w2,gV w3,gV w4⟩,.cons rfl (.v _) (.cons rfl (.v _) (.cons rfl (.v _) (.cons rfl (.v _) (.cons rfl (.v _) .nil))))⟩
theorem Reads.weak {t:TypeId} {k:Nat} {α:Type} {F:α→List AV} {ok ok':α→Prop} (h:Reads t k F ok) (hw:∀x,ok x→ok' x):Reads t k F ok':=fun W vs hl hr=>by
 obtain⟨x,h1,h2⟩:=h W vs hl hr
 exact⟨x,hw x h1,h2⟩
theorem aa5:Tryz.prog.bytesOf 44=40:=aA
theorem NA:Reads 102 1 (fun l:List Cover=>[dz l]) (fun l=>(∀x,x∈l→x.ok)∧l.length≤1000000000000000):=
 (yF Tryz.underlying102 aA (by decide) Cover.len aa4).weak fun l h=>⟨h.1,by
   have h2:=h.2
   rw[aa5] at h2
   simp only[reachBytes] at h2
   omega⟩
theorem NB:Reads 53 2 (fun p:Int×Int=>[int p.1,int p.2]) (fun p=>Int64 p.1∧Int64 p.2):=by
 intro W vs hl h
 match vs,hl with
 | [c0,c1],_=>
   obtain⟨x0,rfl,w0⟩:=Rd.field_int Tryz.underlying53 h 0 _ rfl rfl (c:=c0) rfl
   obtain⟨x1,rfl,w1⟩:=Rd.field_int Tryz.underlying53 h 1 _ rfl rfl (c:=c1) rfl
   exact⟨⟨x0,x1⟩,⟨gV w0,gV w1⟩,.cons rfl (.v _) (.cons rfl (.v _) .nil)⟩
theorem NC:Reads 101 4 (fun p:Int×Int×Int×Int=>[int p.1,int p.2.1,int p.2.2.1,int p.2.2.2]) (fun p=>Int64 p.1∧Int64 p.2.1∧Int64 p.2.2.1∧Int64 p.2.2.2):=by
 intro W vs hl h
 match vs,hl with
 | [c0,c1,c2,c3],_=>
   obtain⟨x0,rfl,w0⟩:=Rd.field_int Tryz.underlying101 h 0 _ rfl rfl (c:=c0) rfl
   obtain⟨x1,rfl,w1⟩:=Rd.field_int Tryz.underlying101 h 1 _ rfl rfl (c:=c1) rfl
   obtain⟨x2,rfl,w2⟩:=Rd.field_int Tryz.underlying101 h 2 _ rfl rfl (c:=c2) rfl
   obtain⟨x3,rfl,w3⟩:=Rd.field_int Tryz.underlying101 h 3 _ rfl rfl (c:=c3) rfl
   exact⟨⟨x0,x1,x2,x3⟩,⟨gV w0,gV w1,gV w2,gV w3⟩,.cons rfl (.v _) (.cons rfl (.v _) (.cons rfl (.v _) (.cons rfl (.v _) .nil)))⟩
theorem ND:Tryz.prog.cellsOf 53=2:=aA
theorem NE:Tryz.prog.cellsOf 101=4:=aA
theorem NF:Tryz.prog.cellsOf 102=1:=aA
theorem aa6:Reads 104 7 Terms.flat (fun x=>x.ok∧x.fit):=by
 intro W vs hl h
 match vs,hl with
 | [c0,c1,c2,c3,c4,c5,c6],_=>
   have h0:=Rd.field Tryz.underlying104 h 0 _ rfl (o:=0) rfl rfl ND
   have h1:=Rd.field Tryz.underlying104 h 1 _ rfl (o:=2) rfl rfl NE
   have h2:=Rd.field Tryz.underlying104 h 2 _ rfl (o:=6) rfl rfl NF
   obtain⟨⟨a,b⟩,⟨o0,o1⟩,r0⟩:=NB W _ rfl h0
   obtain⟨⟨c,d,ag,z⟩,⟨o2,o3,o4,o5⟩,r1⟩:=NC W _ rfl h1
   obtain⟨l,⟨o6,o7⟩,r2⟩:=NA W _ rfl h2
   exact⟨⟨a,b,c,d,ag,z,l⟩,⟨⟨⟨o0,o1,o2,o3,o4,o5⟩,o6⟩,o7⟩,(r0.app r1).app r2⟩
theorem aa7:Reads 106 9 Change.flat (fun x=>x.ok∧x.fit):=by
 intro W vs hl h
 match vs,hl with
 | [c0,c1,c2,c3,c4,c5,c6,c7,c8],_=>
   obtain⟨x0,rfl,w0⟩:=Rd.field_int Tryz.underlying106 h 0 _ rfl rfl (c:=c0) rfl
   obtain⟨x1,rfl,w1⟩:=Rd.field_int Tryz.underlying106 h 1 _ rfl rfl (c:=c1) rfl
   obtain⟨x2,rfl,w2⟩:=Rd.field_int Tryz.underlying106 h 2 _ rfl rfl (c:=c2) rfl
   have h1:=Rd.field Tryz.underlying106 h 3 _ rfl (o:=3) rfl rfl NE
   have h2:=Rd.field Tryz.underlying106 h 4 _ rfl (o:=7) rfl rfl NF
   obtain⟨x8,rfl,w8⟩:=Rd.field_int Tryz.underlying106 h 5 _ rfl rfl (c:=c8) rfl
   obtain⟨⟨c,d,ag,z⟩,⟨o2,o3,o4,o5⟩,r1⟩:=NC W _ rfl h1
   obtain⟨l,⟨o6,o7⟩,r2⟩:=NA W _ rfl h2
   exact⟨⟨x0,x1,x2,c,d,ag,z,l,x8⟩,⟨⟨⟨gV w0,gV w1,gV w2,o2,o3,o4,o5,gV w8⟩,o6⟩,o7⟩,.cons rfl (.v _) (.cons rfl (.v _) (.cons rfl (.v _) ((r1.app r2).app (.cons rfl (.v _) .nil))))⟩
theorem aa8:Tryz.prog.cellsOf 104=7:=aA
theorem RepL.agg {W:World} {vs:Array Value} {l:List AV} (h:RepL W vs.toList l):RepD (fun _=>False) W (.agg vs) (.agg l):=
 .agg (by rw[←h.1];simp) fun i x y hx hy=>(h.2 i x y (by simpa using hx) hy).2
theorem Fun.calls {P:Program} {f:FuncId} {args:List AV} (h:Fun P f args (V.bool true)) {W:World} {vs:Array Value} (hv:RepL W vs.toList args∨(vs.size=args.length∧∀(i:Nat) (v:Value) (y:AV),vs[i]? =some v→args[i]? =some y→RepD (fun _=>False) W v y)):
 Calls P f vs W fun e w'=>e= .returned (.bool true)∧Below W.heap.size W w':=by
 refine(h (fun _=>False) W vs (fun _ h=>h.elim) ?_ ?_).mono ?_
 ·rcases hv with h|h
  ·rw[←h.1];simp
  ·exact h.1
 ·rcases hv with h|h
  ·exact fun i v y hi hy=>(h.2 i v y (by simpa using hi) hy).2
  ·exact h.2
 ·rintro e w' ⟨v,rfl,hv,hb⟩
  cases hv
  exact⟨rfl,hb⟩
theorem Fun.calls2 {P:Program} {f:FuncId} {a b:AV} (h:Fun P f [a,b] (V.bool true)) {W:World} {u v:Value} (h0:RepD (fun _=>False) W u a) (h1:RepD (fun _=>False) W v b):Calls P f #[u,v] W fun e w'=>e= .returned (.bool true)∧Below W.heap.size W w':=
 h.calls (.inr ⟨rfl,fun i v y hi hy=>by
  rcases i with _|_|i<;>simp at hi hy
  ·subst hi hy;exact h0
  ·subst hi hy;exact h1⟩)
end Go.Proofs.YtlikpcpllahalaaGreat.V
namespace Go.Proofs.YtlikpcpllahalaaGreat.V
open Go.ChangeShapes Go.WideShapes Go.ChangeAt Go.RowKit Go.Deep
set_option maxRecDepth 100000
theorem Rd.array {W:World} {t e:TypeId} {n:Nat} {cs:List Value} (ht:Tryz.prog.underlying t=some (.array n e)) (h:Rd W t cs):
 cs.length=Tryz.prog.cellsOf t∧∀i,i<n→Rd W e ((cs.drop (i*Tryz.prog.cellsOf e)).take (Tryz.prog.cellsOf e)):=by
 obtain⟨H,enc,fuel,x,hf,hs⟩:=h
 obtain⟨xs,m,-,hx,hl,hxl,hg⟩:=DataW.trod_array ht hf
 refine⟨hl,fun i hi=> ?_⟩
 have hi':i<xs.length:=by rw[hxl];exact hi
 refine⟨H,enc,m,xs[i],(hg i hi).trans (List.getElem?_eq_getElem hi'),?_⟩
 subst hx
 simp only[Fits,DataW.weights,ht] at hs
 exact List.all_eq_true.2 fun k hk=>List.all_eq_true.1 hs k (F6 (List.mem_map.2 ⟨xs[i],List.getElem_mem hi',rfl⟩) k hk)
theorem aa9:Reads 243 4 (fun p:Int×Int×Int×Int=>[int p.1,int p.2.1,int p.2.2.1,int p.2.2.2]) (fun _=>True):=by
 intro W vs hl h
 match vs,hl with
 | [c0,c1,c2,c3],_=>
   obtain⟨-,ha⟩:=Rd.array Tryz.underlying243 h
   have h0:=ha 0 (by decide)
   have h1:=ha 1 (by decide)
   have h2:=ha 2 (by decide)
   have h3:=ha 3 (by decide)
   rw[Nz] at h0 h1 h2 h3
   obtain⟨x0,e0,w0⟩:=Rd.int Tryz.underlying3 h0
   obtain⟨x1,e1,w1⟩:=Rd.int Tryz.underlying3 h1
   obtain⟨x2,e2,w2⟩:=Rd.int Tryz.underlying3 h2
   obtain⟨x3,e3,w3⟩:=Rd.int Tryz.underlying3 h3
   simp at e0 e1 e2 e3
   subst e0 e1 e2 e3
   exact⟨(x0,x1,x2,x3),trivial,.cons rfl (.v _) (.cons rfl (.v _) (.cons rfl (.v _) (.cons rfl (.v _) .nil)))⟩
theorem aba:Reads 92 6 Claim.flat (fun _=>True):=by
 intro W vs hl h
 match vs,hl with
 | [c0,c1,c2,c3,c4,c5],_=>
   obtain⟨x0,rfl,w0⟩:=Rd.field_int Tryz.underlying92 h 0 _ rfl rfl (c:=c0) rfl
   obtain⟨x1,rfl,w1⟩:=Rd.field_int Tryz.underlying92 h 1 _ rfl rfl (c:=c1) rfl
   obtain⟨x2,rfl,w2⟩:=Rd.field_int Tryz.underlying92 h 2 _ rfl rfl (c:=c2) rfl
   obtain⟨x3,rfl,w3⟩:=Rd.field_int Tryz.underlying92 h 3 _ rfl rfl (c:=c3) rfl
   obtain⟨x4,rfl,w4⟩:=Rd.field_int Tryz.underlying92 h 4 _ rfl rfl (c:=c4) rfl
   obtain⟨x5,rfl,w5⟩:=Rd.field_int Tryz.underlying92 h 5 _ rfl rfl (c:=c5) rfl
   exact⟨⟨x0,x1,x2,x3,x4,x5⟩,trivial,(.cons rfl (.v _) (.cons rfl (.v _) (.cons rfl (.v _) (.cons rfl (.v _) (.cons rfl (.v _) (.cons rfl (.v _) .nil))))))⟩
theorem abb:Reads 97 3 Act.flat (fun x=>Int64 x.booked∧Int64 x.kind∧Int64 x.amt):=by
 intro W vs hl h
 match vs,hl with
 | [c0,c1,c2],_=>
   obtain⟨x0,rfl,w0⟩:=Rd.field_int Tryz.underlying97 h 0 _ rfl rfl (c:=c0) rfl
   obtain⟨x1,rfl,w1⟩:=Rd.field_int Tryz.underlying97 h 1 _ rfl rfl (c:=c1) rfl
   obtain⟨x2,rfl,w2⟩:=Rd.field_int Tryz.underlying97 h 2 _ rfl rfl (c:=c2) rfl
   exact⟨⟨x0,x1,x2⟩,⟨gV w0,gV w1,gV w2⟩,(.cons rfl (.v _) (.cons rfl (.v _) (.cons rfl (.v _) .nil)))⟩
theorem abd:Reads 55 9 Treaty.flat (fun _=>True):=by
 intro W vs hl h
 match vs,hl with
 | [c0,c1,c2,c3,c4,c5,c6,c7,c8],_=>
   obtain⟨x0,rfl,w0⟩:=Rd.field_int Tryz.underlying55 h 0 _ rfl rfl (c:=c0) rfl
   obtain⟨x1,rfl,w1⟩:=Rd.field_int Tryz.underlying55 h 1 _ rfl rfl (c:=c1) rfl
   have h2:=Rd.field Tryz.underlying55 h 2 _ rfl (o:=2) rfl rfl ND
   obtain⟨⟨a,b⟩,_,r2⟩:=NB W _ rfl h2
   obtain⟨x3,rfl,w3⟩:=Rd.field_int Tryz.underlying55 h 3 _ rfl rfl (c:=c4) rfl
   obtain⟨x4,rfl,w4⟩:=Rd.field_int Tryz.underlying55 h 4 _ rfl rfl (c:=c5) rfl
   obtain⟨x5,rfl,w5⟩:=Rd.field_int Tryz.underlying55 h 5 _ rfl rfl (c:=c6) rfl
   obtain⟨x6,rfl,w6⟩:=Rd.field_int Tryz.underlying55 h 6 _ rfl rfl (c:=c7) rfl
   obtain⟨x7,rfl,w7⟩:=Rd.field_int Tryz.underlying55 h 7 _ rfl rfl (c:=c8) rfl
   exact⟨⟨x0,x1,a,b,x3,x4,x5,x6,x7⟩,trivial,(.cons rfl (.v _) (.cons rfl (.v _) (r2.app (.cons rfl (.v _) (.cons rfl (.v _) (.cons rfl (.v _) (.cons rfl (.v _) (.cons rfl (.v _) .nil))))))))⟩
theorem abe:Reads 357 2 Band.flat (fun _=>True):=by
 intro W vs hl h
 match vs,hl with
 | [c0,c1],_=>
   obtain⟨x0,rfl,w0⟩:=Rd.field_int Tryz.underlying357 h 0 _ rfl rfl (c:=c0) rfl
   obtain⟨x1,rfl,w1⟩:=Rd.field_int Tryz.underlying357 h 1 _ rfl rfl (c:=c1) rfl
   exact⟨⟨x0,x1⟩,trivial,(.cons rfl (.v _) (.cons rfl (.v _) .nil))⟩
theorem abf:Reads 244 1 (fun l:List Band=>[.sl false 2 (l.map Band.flat)]) (fun _=>True):=
 (yF Tryz.underlying244 aA (by decide) (fun b:Band=>by rfl) abe).weak fun l h=>trivial
theorem NG:Reads 45 1 (fun l:List Int=>[ints l]) (fun _=>True):=
 (yF Tryz.underlying45 aA (by decide) (fun _:Int=>by rfl) aa3).weak fun l h=>trivial
theorem abg:Tryz.prog.cellsOf 97=3:=aA
theorem abh:Tryz.prog.cellsOf 106=9:=aA
theorem abj:Tryz.prog.cellsOf 92=6:=aA
theorem abk:Tryz.prog.cellsOf 55=9:=aA
theorem abl:Reads 108 39 Fact.flat (fun x=>x.terms.ok∧x.change.ok):=by
 intro W vs hl h
 obtain⟨c0,vs,rfl⟩:=List.exists_cons_of_length_pos (l:=vs) byOmega
 simp only[List.length_cons] at hl
 obtain⟨c1,vs,rfl⟩:=List.exists_cons_of_length_pos (l:=vs) byOmega
 simp only[List.length_cons] at hl
 obtain⟨c2,vs,rfl⟩:=List.exists_cons_of_length_pos (l:=vs) byOmega
 simp only[List.length_cons] at hl
 obtain⟨c3,vs,rfl⟩:=List.exists_cons_of_length_pos (l:=vs) byOmega
 simp only[List.length_cons] at hl
 obtain⟨c4,vs,rfl⟩:=List.exists_cons_of_length_pos (l:=vs) byOmega
 simp only[List.length_cons] at hl
 obtain⟨c5,vs,rfl⟩:=List.exists_cons_of_length_pos (l:=vs) byOmega
 simp only[List.length_cons] at hl
 obtain⟨c6,vs,rfl⟩:=List.exists_cons_of_length_pos (l:=vs) byOmega
 simp only[List.length_cons] at hl
 obtain⟨c7,vs,rfl⟩:=List.exists_cons_of_length_pos (l:=vs) byOmega
 simp only[List.length_cons] at hl
 obtain⟨c8,vs,rfl⟩:=List.exists_cons_of_length_pos (l:=vs) byOmega
 simp only[List.length_cons] at hl
 obtain⟨c9,vs,rfl⟩:=List.exists_cons_of_length_pos (l:=vs) byOmega
 simp only[List.length_cons] at hl
 obtain⟨c10,vs,rfl⟩:=List.exists_cons_of_length_pos (l:=vs) byOmega
 simp only[List.length_cons] at hl
 obtain⟨c11,vs,rfl⟩:=List.exists_cons_of_length_pos (l:=vs) byOmega
 simp only[List.length_cons] at hl
 obtain⟨c12,vs,rfl⟩:=List.exists_cons_of_length_pos (l:=vs) byOmega
 simp only[List.length_cons] at hl
 obtain⟨c13,vs,rfl⟩:=List.exists_cons_of_length_pos (l:=vs) byOmega
 simp only[List.length_cons] at hl
 obtain⟨c14,vs,rfl⟩:=List.exists_cons_of_length_pos (l:=vs) byOmega
 simp only[List.length_cons] at hl
 obtain⟨c15,vs,rfl⟩:=List.exists_cons_of_length_pos (l:=vs) byOmega
 simp only[List.length_cons] at hl
 obtain⟨c16,vs,rfl⟩:=List.exists_cons_of_length_pos (l:=vs) byOmega
 simp only[List.length_cons] at hl
 obtain⟨c17,vs,rfl⟩:=List.exists_cons_of_length_pos (l:=vs) byOmega
 simp only[List.length_cons] at hl
 obtain⟨c18,vs,rfl⟩:=List.exists_cons_of_length_pos (l:=vs) byOmega
 simp only[List.length_cons] at hl
 obtain⟨c19,vs,rfl⟩:=List.exists_cons_of_length_pos (l:=vs) byOmega
 simp only[List.length_cons] at hl
 obtain⟨c20,vs,rfl⟩:=List.exists_cons_of_length_pos (l:=vs) byOmega
 simp only[List.length_cons] at hl
 obtain⟨c21,vs,rfl⟩:=List.exists_cons_of_length_pos (l:=vs) byOmega
 simp only[List.length_cons] at hl
 obtain⟨c22,vs,rfl⟩:=List.exists_cons_of_length_pos (l:=vs) byOmega
 simp only[List.length_cons] at hl
 obtain⟨c23,vs,rfl⟩:=List.exists_cons_of_length_pos (l:=vs) byOmega
 simp only[List.length_cons] at hl
 obtain⟨c24,vs,rfl⟩:=List.exists_cons_of_length_pos (l:=vs) byOmega
 simp only[List.length_cons] at hl
 obtain⟨c25,vs,rfl⟩:=List.exists_cons_of_length_pos (l:=vs) byOmega
 simp only[List.length_cons] at hl
 obtain⟨c26,vs,rfl⟩:=List.exists_cons_of_length_pos (l:=vs) byOmega
 simp only[List.length_cons] at hl
 obtain⟨c27,vs,rfl⟩:=List.exists_cons_of_length_pos (l:=vs) byOmega
 simp only[List.length_cons] at hl
 obtain⟨c28,vs,rfl⟩:=List.exists_cons_of_length_pos (l:=vs) byOmega
 simp only[List.length_cons] at hl
 obtain⟨c29,vs,rfl⟩:=List.exists_cons_of_length_pos (l:=vs) byOmega
 simp only[List.length_cons] at hl
 obtain⟨c30,vs,rfl⟩:=List.exists_cons_of_length_pos (l:=vs) byOmega
 simp only[List.length_cons] at hl
 obtain⟨c31,vs,rfl⟩:=List.exists_cons_of_length_pos (l:=vs) byOmega
 simp only[List.length_cons] at hl
 obtain⟨c32,vs,rfl⟩:=List.exists_cons_of_length_pos (l:=vs) byOmega
 simp only[List.length_cons] at hl
 obtain⟨c33,vs,rfl⟩:=List.exists_cons_of_length_pos (l:=vs) byOmega
 simp only[List.length_cons] at hl
 obtain⟨c34,vs,rfl⟩:=List.exists_cons_of_length_pos (l:=vs) byOmega
 simp only[List.length_cons] at hl
 obtain⟨c35,vs,rfl⟩:=List.exists_cons_of_length_pos (l:=vs) byOmega
 simp only[List.length_cons] at hl
 obtain⟨c36,vs,rfl⟩:=List.exists_cons_of_length_pos (l:=vs) byOmega
 simp only[List.length_cons] at hl
 obtain⟨c37,vs,rfl⟩:=List.exists_cons_of_length_pos (l:=vs) byOmega
 simp only[List.length_cons] at hl
 obtain⟨c38,vs,rfl⟩:=List.exists_cons_of_length_pos (l:=vs) byOmega
 simp only[List.length_cons] at hl
 obtain rfl:vs=[]:=List.eq_nil_of_length_eq_zero byOmega
 ·clear hl
  obtain⟨x0,rfl,w0⟩:=Rd.field_int Tryz.underlying108 h 0 _ rfl rfl (c:=c0) rfl
  obtain⟨x1,rfl,w1⟩:=Rd.field_int Tryz.underlying108 h 1 _ rfl rfl (c:=c1) rfl
  obtain⟨x2,rfl,w2⟩:=Rd.field_int Tryz.underlying108 h 2 _ rfl rfl (c:=c2) rfl
  obtain⟨x3,rfl,w3⟩:=Rd.field_int Tryz.underlying108 h 3 _ rfl rfl (c:=c3) rfl
  obtain⟨x4,rfl,w4⟩:=Rd.field_int Tryz.underlying108 h 4 _ rfl rfl (c:=c4) rfl
  have h5:=Rd.field Tryz.underlying108 h 5 _ rfl (o:=5) rfl rfl aa8
  obtain⟨x5,⟨o5,f5⟩,r5⟩:=aa6 W _ rfl h5
  have h6:=Rd.field Tryz.underlying108 h 6 _ rfl (o:=12) rfl rfl abh
  obtain⟨x6,⟨o6,f6⟩,r6⟩:=aa7 W _ rfl h6
  have h7:=Rd.field Tryz.underlying108 h 7 _ rfl (o:=21) rfl rfl abj
  obtain⟨x7,-,r7⟩:=aba W _ rfl h7
  have h8:=Rd.field Tryz.underlying108 h 8 _ rfl (o:=27) rfl rfl abg
  obtain⟨x8,-,r8⟩:=abb W _ rfl h8
  have h9:=Rd.field Tryz.underlying108 h 9 _ rfl (o:=30) rfl rfl abk
  obtain⟨x9,-,r9⟩:=abd W _ rfl h9
  exact⟨⟨x0,x1,x2,x3,x4,x5,x6,x7,x8,x9⟩,⟨o5,o6⟩,(.cons rfl (.v _) (.cons rfl (.v _) (.cons rfl (.v _) (.cons rfl (.v _) (.cons rfl (.v _) (r5.app (r6.app (r7.app (r8.app r9)))))))))⟩
theorem abm:Tryz.prog.bytesOf 108=344:=aA
theorem abn:Reads 25 1 (fun l:List Fact=>[facts l]) (fun l=>(∀x,x∈l→x.terms.ok∧x.change.ok)∧l.length≤1000000000000):=
 (yF Tryz.underlying25 aA (by decide) Fact.len abl).weak fun l h=>⟨h.1,by
   have h2:=h.2
   rw[abm] at h2
   simp only[reachBytes] at h2
   omega⟩
theorem abo:Tryz.prog.cellsOf 243=4:=aA
theorem abp:Tryz.prog.cellsOf 244=1:=aA
theorem NH:Tryz.prog.cellsOf 45=1:=aA
theorem abq:Reads 246 9 Version.flat (fun _=>True):=by
 intro W vs hl h
 match vs,hl with
 | [c0,c1,c2,c3,c4,c5,c6,c7,c8],_=>
   obtain⟨x0,rfl,w0⟩:=Rd.field_int Tryz.underlying246 h 0 _ rfl rfl (c:=c0) rfl
   have h1:=Rd.field Tryz.underlying246 h 1 _ rfl (o:=1) rfl rfl abo
   obtain⟨⟨b0,b1,b2,b3⟩,-,r1⟩:=aa9 W _ rfl h1
   have h2:=Rd.field Tryz.underlying246 h 2 _ rfl (o:=5) rfl rfl abp
   obtain⟨x2,o2,r2⟩:=abf W _ rfl h2
   have h3:=Rd.field Tryz.underlying246 h 3 _ rfl (o:=6) rfl rfl NH
   obtain⟨x3,o3,r3⟩:=NG W _ rfl h3
   have h4:=Rd.field Tryz.underlying246 h 4 _ rfl (o:=7) rfl rfl NH
   obtain⟨x4,o4,r4⟩:=NG W _ rfl h4
   obtain⟨x5,rfl,w5⟩:=Rd.field_int Tryz.underlying246 h 5 _ rfl rfl (c:=c8) rfl
   exact⟨⟨x0,b0,b1,b2,b3,x2,x3,x4,x5⟩,trivial,(.cons rfl (.v _) (r1.app (r2.app (r3.app (r4.app (.cons rfl (.v _) .nil))))))⟩
theorem abr:Reads 22 1 (fun l:List Version=>[dh l]) (fun _=>True):=
 (yF Tryz.underlying22 aA (by decide) (fun v:Version=>by rfl) abq).weak fun l h=>trivial
theorem abt:Tryz.prog.cellsOf 22=1:=aA
theorem abu:Reads 24 1 (fun l=>[dh l]) (fun _=>True):=by
 intro W vs hl h
 match vs,hl with
 | [c0],_=>
   have h0:=Rd.field Tryz.underlying24 h 0 _ rfl (o:=0) rfl rfl abt
   obtain⟨x0,o0,r0⟩:=abr W _ rfl h0
   exact⟨x0,trivial,r0⟩
theorem abv:Tryz.prog.cellsOf 25=1:=aA
theorem abw:Tryz.prog.cellsOf 24=1:=aA
theorem abx:Reads 27 2 Journal.flat (fun x=>x.facts.length≤1000000000000∧∀f,f∈x.facts→f.terms.ok∧f.change.ok):=by
 intro W vs hl h
 match vs,hl with
 | [c0,c1],_=>
   have h0:=Rd.field Tryz.underlying27 h 0 _ rfl (o:=0) rfl rfl abw
   obtain⟨x0,o0,r0⟩:=abu W _ rfl h0
   have h1:=Rd.field Tryz.underlying27 h 1 _ rfl (o:=1) rfl rfl abv
   obtain⟨x1,o1,r1⟩:=abn W _ rfl h1
   exact⟨⟨x0,x1⟩,⟨o1.2,o1.1⟩,(r0.app r1)⟩
end Go.Proofs.YtlikpcpllahalaaGreat.V
namespace Go.Proofs.YtlikpcpllahalaaGreat.topClaimsBorneProof
open Go.ChangeShapes Go.WideShapes Go.ChangeAt Go.RowKit V
open Go.ChangeMaps (open_string shut_string)
set_option maxRecDepth 100000 in
theorem lifted (os:Os) (started:os.Started) (H:Type) (enc:TypeId×Value→H):
 ReturnsInHanded {} Tryz.checked os 3 .any (Rows.topClaimsBorneSpec.pre6 enc Tryz.prog Tryz.f3 Rows.topClaimsBorneRow.domain false) (Rows.topClaimsBorneSpec.post enc Tryz.prog Tryz.f3 false true false false):=by
 refine returnsInHanded_of_change_sized (C:=Tryz.checked) own started (by kernel_rfl) Tryz.func3
  (ChangeSpec.witness6 (enc:=enc) (C:=Tryz.checked) false ⟨#[],#[.agg #[.slice none 0 0,.slice none 0 0],.int .i64 0],[]⟩ 8 (by kernel_rfl) (by kernel_rfl) (by kernel_rfl) (by kernel_rfl)) ?_
 intro W base args ds gs before hval0 hW hcnd hsz _
 have hval:∀(j:Nat) t v,Tryz.f3.params[j]? =some t→args[j]? =some v→Value.okWide Tryz.prog W .any base t v:=hval0
 have hW':=hW
 obtain⟨p,q,hA0,hV,rfl,hfz,hnd⟩:=hW
 have hA:DataW.TrodAll enc Tryz.prog W 0 (fun _=>true) true Tryz.f3.params.toList args.toList ds p:=hA0
 rw[Tryz.params3] at hA hval
 obtain⟨v0,vs0,d0,ds0,p0,q0,hargs,rfl,rfl,h0,r0⟩:=trodAll_cons hA
 obtain⟨v1,vs1,d1,ds1,p1,q1,rfl,rfl,rfl,h1,r1⟩:=trodAll_cons r0
 obtain⟨rfl,rfl,rfl⟩:=trodAll_nil r1
 obtain rfl:args= #[v0,v1]:=by cases args;simp_all
 obtain⟨rfl,rfl⟩:=trodVars_none hV
 have k0:=h0
 have lt0:∀x∈p0,x.block<W.heap.size:=by obtain⟨m,hm⟩:=k0;exact DataW.trod_lt m _ _ _ hm
 obtain⟨⟨cs0⟩,rfl,hsz0⟩:=okWide_struct Tryz.underlying27 (hval 0 27 v0 rfl rfl)
 obtain⟨x0,ok0,rp0⟩:=abx W cs0 (hsz0.trans (by kernel_rfl)) (Rd.of h0 (Fits.part hsz (j:=0) rfl rfl))
 have k1:=h1
 have lt1:∀x∈p1,x.block<W.heap.size:=by obtain⟨m,hm⟩:=k1;exact DataW.trod_lt m _ _ _ hm
 obtain⟨x1,rfl,rfl,rfl,ok1⟩:=open_int Tryz.underlying3 (hval 1 3 v1 rfl rfl) h1
 clear hA0 hval0
 refine(Fun.calls2 (aa2 ZP x0 x1 ok0.1 ok0.2) (RepL.agg rp0) (.v _)).mono fun e W' ⟨he,bel⟩=> ?_
 subst he
 exact⟨_,rfl,_,_,_,[],_,[],hW',trodAll_mk1 (shut_bool Tryz.underlying4 _),(trodAll_cons_mk (Below.trod laidOut (by kernel_rfl) (of_decide_eq_true (by kernel_rfl)) k0 bel lt0) (trodAll_cons_mk (Below.trod laidOut (by kernel_rfl) (of_decide_eq_true (by kernel_rfl)) k1 bel lt1) (trodAll_mk0))),rfl,bel.frame _,fun h=>by cases h⟩
end Go.Proofs.YtlikpcpllahalaaGreat.topClaimsBorneProof
