/- Parts of the proof. -/
import Derived.Test.YtlikpcpllahalaaGreatG49
set_option maxHeartbeats 16000000
set_option linter.unusedSimpArgs false
set_option linter.unusedVariables false
namespace Go.Proofs.YtlikpcpllahalaaGreat.V
open Go.RowKit
set_option maxRecDepth 100000
section
attribute [local go_sem] Option.toList_some Option.toList_none Int.reduceEq Int.reduceNe
theorem Nk:∀n,mM [AV.v (Value.int IntKind.i64 0),AV.v (Value.int IntKind.i64 0),AV.v (Value.int IntKind.i64 0),AV.v (Value.int IntKind.i64 0),AV.v (Value.int IntKind.i64 0),AV.v (Value.bool false)] n=aa Pos.flat (List.replicate n vM)
 |0=>rfl
 |n+1=>by rw[mM,Nk n,List.replicate_succ];rfl
theorem aaD {α:Type} {F:α→List AV} {k:Nat} (hF:∀x,(F x).length=k) {l:List α} {i:Nat} (hi:i<l.length) (y:α):splice (aa F l) (i*k) (F y)=aa F (l.set i y):=by
 have h1:∀l:List α,aS (fun(_:Unit)=>F) (fun _=> ()) l=aa F l:=by
  intro l
  induction l with
  |nil=>rfl
  |cons x l ih=>
   have:aS (fun(_:Unit)=>F) (fun _=> ()) (x::l)=F x++aS (fun(_:Unit)=>F) (fun _=> ()) l:=rfl
   rw[this,ih];rfl
 have:=BO (F:=fun(_:Unit)=>F) (nm:=fun _=> ()) (k:=k) (fun _ x=>hF x) (o:=0) (xs:=F y) (b:= ()) (y:=y) (by rw[hF];omega) (List.getElem?_eq_getElem hi) (by
  have h2:=hF l[i]
  have h3:=hF y
  show splice (F l[i]) 0 (F y)=F y
  unfold splice
  rw[List.take_zero,List.nil_append,List.drop_eq_nil_of_le byOmega,List.append_nil])
 rw[h1,Nat.add_zero] at this
 rw[this,h1]
theorem aaE (r:Nat→Nat) (l:List Pos):(aa Pos.flat l).map (AV.ren r)=aa Pos.flat l:=jh (fun x r=>by simp[Pos.flat]) r l
theorem aaF (p:Nat→Bool) (l:List Pos):(aa Pos.flat l).all (AV.names p)=true:=ji (fun x p=>by simp[Pos.flat]) p l
attribute [local go_sem] aaE aaF
theorem Nl {s:Stt} (h:(eO s).1≠0):(eO s).2=[]:=by
 have key:∀(l:List File) (k:Nat) (out:List Gr),(kR s k out l).1≠0→(kR s k out l).2=[]:=by
  intro l
  induction l with
  |nil=>intro k out h;exact absurd rfl h
  |cons f l ih=>
   intro k out h
   rw[kR] at h ⊢
   split at h
   ·rename_i e c hc
    exact ih _ _ h
   ·rfl
 exact key _ _ _ h
theorem aaG {out:List Pos} {ks:List Int} {st:List Pos} {m:Nat} (h1:m<ks.length) (h2:m<st.length):gF out (ks.take (m+1)) (st.take (m+1))=(gF out (ks.take m) (st.take m)).set ks[m].toNat st[m]:=by
 unfold gF
 rw[yc h1,yc h2,List.zip_append (by rw[List.length_take,List.length_take];omega),List.foldl_append]
 rfl
theorem Nn {n:Nat} {T:List Version} {s:Stt} (hn:n≤300) (hT:TSz T) (hs:Sz n T s) (hcq:∀g,g∈(eO s).2→g.cover.ok):Fun Tryz.prog 12 [.agg s.flat] (.tup [yj (nO s).2,int (nO s).1]):=by
 have kg:=aal hn hT hs
 have hfl:=hs.fil
 unfold nO
 by_cases he:(eO s).1=0
 ·have hgp:=FZ he
  rw[if_pos he]
  rw[he] at kg
  generalize (eO s).2=G at *
  generalize hR0:mE s G (List.replicate s.files.length vM)=R0
  refine af Tryz.func12 fun cx hN hR hF hL=> ?_
  refine' aj tt kg (lv (fun hq=>lf ?_) (lv (fun hq=>o4 fun K hK=> ?_) tt))
  rotate_left
  ·simp[maxLen];omega
  rw[Nk]
  have hz:(List.replicate s.files.length vM).length=s.files.length:=List.length_replicate
  have hgl:=hgp.2.l
  refine aX (σ:={q:Nat×List Pos // q.1≤G.length∧mE s (G.drop q.1) q.2=R0∧q.2.length=s.files.length}) (fun q=>⟨[(30,int q.1.1),(29,int G.length),(28,BQ G),(6,.osl 3024 6 0 s.files.length),(1,.ptr 0 0),(2,.v (.slice none 0 0)),(3,int 0)],[(3024,some ⟨49,aa Pos.flat q.1.2⟩),(0,some ⟨32,s.flat⟩)],5000⟩) (fun q=>G.length-q.1.1) id ⟨(0,List.replicate s.files.length vM),by omega,hR0,hz⟩ ?_ ?_
  ·simp only[go_sem,↓reduceIte,hF]
   all_goals rfl
  ·rintro⟨⟨i,out⟩,h1,h2,h3⟩
   simp only at h1 h2 h3 ⊢
   by_cases hi:i<G.length
   ·have e1:(G.map Gr.flat)[i]? =some (G[i].flat):=by rw[List.getElem?_map,List.getElem?_eq_getElem hi];rfl
    have e2:=wS i
    rw[List.drop_eq_getElem_cons hi,mE] at h2
    have hm:=List.getElem_mem hi
    generalize G[i]=g at *
    have hok:∀j,j∈g.at_→∃(kn:Nat) (f:File),j=(kn:Int)∧s.files[kn]? =some f:=fun j hj=>by
     obtain⟨f,hf,-⟩:=hgp.1.ok g hm j hj
     have:=hgp.1.rg j (List.mem_flatMap.2 ⟨g,hm,hj⟩)
     exact⟨j.toNat,f,by omega,hf⟩
    have hok2:∀j,j∈g.at_→∃f,s.files[j.toNat]? =some f:=fun j hj=>by
     obtain⟨f,hf,-⟩:=hgp.1.ok g hm j hj
     exact⟨f,hf⟩
    have hal:=hgp.2.a g hm
    have hfs:=yC hok2
    refine' run (I e1 e2) (V.l3 fun hq=> ?_)
    refine rH 9 9001 7 95 rfl (Nat.le_of_ble_eq_true rfl) ?_
    refine iD mixed (σ:={m:Nat // m≤g.at_.length}) (fun m=>⟨[(9,.osl 9001 7 0 m.1),(37,int m.1),(35,ints g.at_),(36,int g.at_.length),(8,.ptr 6016 0),(30,int i),(29,int G.length),(28,BQ G),(6,.osl 3024 6 0 s.files.length),(1,.ptr 0 0),(2,.v (.slice none 0 0)),(3,int 0)],
     [(9001,some ⟨95,aa File.flat (aR s (g.at_.take m.1))⟩),(6016,some ⟨128,g.flat⟩),(3024,some ⟨49,aa Pos.flat out⟩),(0,some ⟨32,s.flat⟩)],10000⟩) (fun m=>g.at_.length-m.1) id ⟨0,by omega⟩ (by rw[hN];kernel_rfl) ?_ ?_
    ·simp only[go_sem,↓reduceIte,hF]
     exact⟨rfl,rfl⟩
    ·rintro⟨m,hm1⟩
     simp only
     by_cases hm2:m<g.at_.length
     ·have d0:g.at_[m]? =some g.at_[m]:=List.getElem?_eq_getElem hm2
      obtain⟨kn,f,hkn,hf⟩:=hok _ (List.getElem_mem hm2)
      have d1:(g.at_.map ak)[m]? =some [int kn]:=by rw[List.getElem?_map,d0,hkn];rfl
      have d2:=wS m
      have d3:g.at_.take (m+1)=g.at_.take m++[(kn:Int)]:=by rw[yc hm2,hkn]
      have d4:(s.files.map File.flat)[kn]? =some f.flat:=by rw[List.getElem?_map,hf];rfl
      have d5:=Nc s (g.at_.take m) hf
      have d6:(aR s (g.at_.take m)).length=m:=by rw[yC fun j hj=>hok2 j (List.mem_of_mem_take hj),List.length_take];omega
      have hkl:=(List.getElem?_eq_some_iff.1 hf).1
      have b1:((kn:Int)<(s.files.length:Int))=True:=eT
      have b2:(0≤(kn:Int))=True:=eT
      have d7:=dU (F:=File.flat) (k:=7) (fun _=>rfl) (aR s (g.at_.take m))
      generalize aR s (g.at_.take m)=L at *
      refine' run (I d1 (I d2 (I d4 (I b1 b2)))) (lv (fun hq=>lf ?_) (lv (fun hq=>o4 fun K hK=> ?_) tt))
      ·refine⟨⟨m+1,hm2⟩,eG 9001 12056,?_,mS⟩
       simp only[d3,d5]
       have hsn:=uK File.flat L f
       simp only[go_sem,↓reduceIte,hF,hsn,List.map_append,List.all_append]
      ·refine⟨by rw[d7,d6],?_⟩
       simp[maxLen];omega
     ·obtain rfl:m=g.at_.length:=byOmega
      simp only[List.take_length]
      refine' run tt (lv (fun hq=>o4 fun K hK=> ?_) tt)
      have ka:=MJ g.cover (aR s g.at_) (hcq g hm) byOmega
      (apply zJ [9001] Hy (ka);(case hp|hl|hk=>(simp only[go_sem,↓reduceIte];try rfl));(try(case hfz=>(first|(simp only[go_sem];done)|(simp[go_sem,aH];done)))))
      ·refine⟨⟨rfl,rfl,rfl,rfl,rfl,True.intro⟩,?_,True.intro⟩
       rw[uq]
       exact⟨⟨rfl,rfl,by omega,by rw[List.length_map,hfs],bS (F:=File.flat) (fun _=>rfl) _⟩,dR (F:=File.flat) (k:=7) (fun _=>rfl) oQ _ hfs.symm⟩
      by_cases hce:bO g.cover (aR s g.at_)=0
      ·rw[if_pos hce] at h2
       have hst:(fA g.cover (aR s g.at_)).length=g.at_.length:=by rw[FV hce,hfs]
       rw[hce]
       generalize fA g.cover (aR s g.at_)=st at *
       (revert K;refine bK ?_;refine' run tt (V.l3 fun hq=> ?_))
       refine iD mixed (σ:={m:Nat // m≤g.at_.length}) (fun m=>⟨[(63,int m.1),(12,yj st),(61,ints g.at_),(62,int g.at_.length),(30,int i),(29,int G.length),(28,BQ G),(6,.osl 3024 6 0 s.files.length),(1,.ptr 0 0),(2,.v (.slice none 0 0)),(3,int 0)],
        [(3024,some ⟨49,aa Pos.flat (gF out (g.at_.take m.1) (st.take m.1))⟩),(0,some ⟨32,s.flat⟩)],15000⟩) (fun m=>g.at_.length-m.1) id ⟨0,by omega⟩ (by rw[hN];kernel_rfl) ?_ ?_
       ·simp only[go_sem,↓reduceIte,hF]
        exact⟨rfl,rfl⟩
       ·rintro⟨m,hm1⟩
        simp only
        by_cases hm2:m<g.at_.length
        ·have d0:g.at_[m]? =some g.at_[m]:=List.getElem?_eq_getElem hm2
         obtain⟨kn,f,hkn,hf⟩:=hok _ (List.getElem_mem hm2)
         have d1:(g.at_.map ak)[m]? =some [int kn]:=by rw[List.getElem?_map,d0,hkn];rfl
         have d2:=wS m
         have hms:m<st.length:=byOmega
         have d4:(st.map Pos.flat)[m]? =some st[m].flat:=by rw[List.getElem?_map,List.getElem?_eq_getElem hms];rfl
         have d3:gF out (g.at_.take (m+1)) (st.take (m+1))=(gF out (g.at_.take m) (st.take m)).set kn st[m]:=by
          rw[aaG hm2 hms,hkn,Int.toNat_natCast]
         have hkl:=(List.getElem?_eq_some_iff.1 hf).1
         have d5:(gF out (g.at_.take m) (st.take m)).length=s.files.length:=by rw[yD,h3]
         have b1:((kn:Int)<(s.files.length:Int))=True:=eT
         have b2:(0≤(kn:Int))=True:=eT
         have b3:((m:Int)<(st.length:Int))=True:=eT
         have d6:=dU (F:=Pos.flat) (k:=6) (fun _=>rfl) (gF out (g.at_.take m) (st.take m))
         rw[d5] at d6
         have d7:=aaD (F:=Pos.flat) (k:=6) (fun _=>rfl) (l:=gF out (g.at_.take m) (st.take m)) (i:=kn) byOmega st[m]
         generalize gF out (g.at_.take m) (st.take m)=P at *
         generalize st[m]=ps at *
         refine' run (I d1 (I d2 (I d4 (I b1 (I b2 (I b3 d6)))))) (V.l3 fun hq=> ?_)
         refine⟨⟨m+1,hm2⟩,id,?_,mS⟩
         have d8:List.take (kn*6) (aa Pos.flat P)++[int ps.gross,int ps.shown,int ps.paid,int ps.back,int ps.reserve,bool ps.opn]++List.drop (kn*6+6) (aa Pos.flat P)=aa Pos.flat (P.set kn ps):=d7
         simp only[d3,d8]
         simp only[go_sem,↓reduceIte,hF]
        ·obtain rfl:m=g.at_.length:=byOmega
         have t1:g.at_.take g.at_.length=g.at_:=List.take_length
         have t2:st.take g.at_.length=st:=by rw[←hst];exact List.take_length
         simp only[t1,t2]
         refine' run (I e1 e2) (V.l3 fun hq=> ?_)
         refine⟨⟨(i+1,gF out g.at_ st),hi,h2,by rw[yD];exact h3⟩,id,?_,mS⟩
         simp only[go_sem,↓reduceIte,hF]
      ·rw[if_neg hce] at h2
       subst h2
       generalize fA g.cover (aR s g.at_)=st at *
       generalize bO g.cover (aR s g.at_)=e at *
       (revert K;refine bK ?_;exact run (I (eq_false hce) (decide_eq_false hce)) tt)
   ·obtain rfl:i=G.length:=byOmega
    rw[List.drop_length] at h2
    have h2:R0=(0,out):=h2.symm
    subst h2
    refine' run tt (V.l3 fun hq=> ?_)
    exact⟨⟨h3.symm,bS (F:=Pos.flat) (fun _=>rfl) out⟩,dR (F:=Pos.flat) (k:=6) (fun _=>rfl) (fun _=>by simp[Pos.flat]) out h3.symm⟩
 ·rw[if_neg he]
  have kg2:=Nl he
  rw[kg2] at kg
  generalize (eO s).1=e at *
  refine af Tryz.func12 fun cx hN hR hF hL=> ?_
  exact aj (I (eq_false he) (decide_eq_false he)) kg tt
end
section
attribute [local go_sem] Option.toList_some Option.toList_none Int.reduceEq Int.reduceNe
theorem vN {p:Nat→Bool} {r:Nat→Nat} {box:ay}:∀ {l m:ay},gY p r box l→gY p r box m→gY p r box (l++m)
 | [],_,_,h=>h
 |(_,some _)::_,_,h1,h2=>⟨h1.1,vN h1.2 h2⟩
 |(_,none)::l,_,h1,h2=>vN (l:=l) h1 h2
theorem Np {α:Type} {T:TypeId} {F:α→List AV}:∀ {l:List (List α)} {B i:Nat},i<l.length→∃x,(B+i,x)∈fe T F B l
 | [],_,_,h=>by simp at h
 |y::l,B,0,_=>⟨_,List.mem_cons_self ..⟩
 |y::l,B,i+1,h=>by
  obtain⟨x,hx⟩:=Np (T:=T) (F:=F) (l:=l) (B:=B+1) (i:=i) (by simpa using h)
  exact⟨x,List.mem_cons_of_mem _ (by rw[show B+(i+1)=B+1+i by omega];exact hx)⟩
theorem aaH {α β:Type} {T T':TypeId} {F:α→List AV} {F':β→List AV} {l:List (List α)} {m:List (List β)} {B C i:Nat} (hi:i<l.length):ah (fe T F B l++fe T' F' C m) (B+i)=ah (fe T F B l) (B+i):=by
 rw[ry,if_pos (jc.2 (Np hi))]
theorem aaI {α β:Type} {T T':TypeId} {F:α→List AV} {F':β→List AV} {l:List (List α)} {m:List (List β)} {B C i:Nat} (h:B+l.length≤C):ah (fe T F B l++fe T' F' C m) (C+i)=ah (fe T' F' C m) (C+i):=by
 rw[ry,if_neg]
 intro h
 obtain⟨x,hx⟩:=jc.1 h
 have:=FH hx
 omega
def dI (b:Nat×Nat) (g:Gr):List AV:=[int g.policy,int g.cover.peril,int g.cover.limit,int g.cover.agg,int g.cover.ded,int g.cover.share,.osl b.1 7 0 g.at_.length,.osl b.2 1 0 g.at_.length]
def nP (s:Stt) (g:Gr):List AV:=[int g.policy,int g.cover.peril,int g.cover.limit,int g.cover.agg,int g.cover.ded,int g.cover.share,dW (aR s g.at_),ints g.at_]
abbrev F3 (s:Stt) (l:List Gr):AV:= .sl false 8 (l.map (nP s))
theorem pz (b:Nat×Nat) (g:Gr):(dI b g).length=8:=rfl
theorem vO (r:Nat→Nat) (b:Nat×Nat) (g:Gr):(dI b g).map (AV.ren r)=dI (r b.1,r b.2) g:=by simp[dI]
theorem vP {p:Nat→Bool} {b:Nat×Nat} (h1:p b.1=true) (h2:p b.2=true) (g:Gr):(dI b g).all (AV.names p)=true:=by simp[dI,h1,h2]
def gG (s:Stt) (k n:Nat):Env:=[(4,.osl 3001 8 0 n),(17,int k),(1,.ptr 0 0),(15,dW s.files),(16,int s.files.length),(2,.v (.slice none 0 0)),(3,bool false)]
def fJ (s:Stt) (A:List (List File)) (B:List (List Int)):ay:=fe 95 File.flat 1000000 A++fe 3 ak 2000000 B
def jH (s:Stt) (k:Nat) (out:List Gr):LS:=
 ⟨gG s k out.length,(0,some ⟨32,s.flat⟩)::(3001,some ⟨47,aS dI (fun j=>(1000000+j,2000000+j)) out⟩)::fJ s (out.map fun g=>aR s g.at_) (out.map Gr.at_),4000000⟩
def BU (s:Stt) (k:Nat) (out:List Gr) (i:Nat) (g:Gr):LS:=
 ⟨gG s k out.length,(0,some ⟨32,s.flat⟩)::(3001,some ⟨47,aS dI (fun j=>if j=i then(7,8) else(1000000+j,2000000+j)) out⟩)::
   (7,some ⟨95,aa File.flat (aR s g.at_)⟩)::(8,some ⟨3,aa ak g.at_⟩)::fJ s ((out.map fun g=>aR s g.at_).set i []) ((out.map Gr.at_).set i []),4000000⟩
structure CgOk (s:Stt) (k:Nat) (out:List Gr):Prop where
 g:GP s k out
 o:GrOk k out
theorem CgOk.fs {s:Stt} {k:Nat} {out:List Gr} (h:CgOk s k out) {g:Gr} (hg:g∈out):(aR s g.at_).length=g.at_.length:=yC fun j hj=>by
 obtain⟨f,hf,-⟩:=h.g.ok g hg j hj
 exact⟨f,hf⟩
theorem CgOk.ne {s:Stt} {k:Nat} {out:List Gr} (h:CgOk s k out) {g:Gr} (hg:g∈out):aR s g.at_≠ []:=fun he=>by
 have h1:=h.fs hg
 rw[he] at h1
 exact h.o.ne g hg (List.eq_nil_of_length_eq_zero h1.symm)
theorem vQ {s:Stt} {A:List (List File)} {B:List (List Int)} {j:Nat} {y:List File} (h:A[j]? =some y) (hn:y≠ []):ah (fJ s A B) (1000000+j)=some ⟨95,aa File.flat y⟩:=by
 have hj:=(List.getElem?_eq_some_iff.1 h).1
 rw[fJ,aaH hj,qN h,if_neg (by simpa using hn)]
theorem vR {s:Stt} {A:List (List File)} {B:List (List Int)} {j:Nat} {y:List Int} (hl:A.length≤1000) (h:B[j]? =some y) (hn:y≠ []):ah (fJ s A B) (2000000+j)=some ⟨3,aa ak y⟩:=by
 rw[fJ,aaI byOmega,qN h,if_neg (by simpa using hn)]
theorem vS {s:Stt} {p:Nat→Bool} {r:Nat→Nat} {box:ay} {A:List (List File)} {B:List (List Int)} (h1:∀j y,A[j]? =some y→y≠ []→ah box (r (1000000+j))=some ⟨95,aa File.flat y⟩)
 (h2:∀j y,B[j]? =some y→y≠ []→ah box (r (2000000+j))=some ⟨3,aa ak y⟩) (h3:∀b,1000000≤b→b<3000000→p b=true) (hA:A.length≤1000) (hB:B.length≤1000):gY p r box (fJ s A B):=
 vN (BP oQ h1 fun b g1 g2=>h3 b g1 byOmega) (BP qR h2 fun b g1 g2=>h3 b byOmega byOmega)
theorem Nq {cx:Cx} (hF:cx.F=fun _=>none) (s:Stt) (k:Nat) (out:List Gr) (r:Nat→Nat) (A:LS) (nm:Nat→Nat×Nat) (hr:∀x y,r x=r y→x=y) (hl:out.length≤1000) (henv:jM (fun b=>decide (b<4000000)) r A.env (gG s k out.length))
 (h0:ah A.box (r 0)=some ⟨32,s.flat⟩) (h1:ah A.box (r 3001)=some ⟨47,aS dI nm out⟩) (h2:∀j,j<out.length→r (1000000+j)=(nm j).1∧r (2000000+j)=(nm j).2)
 (h3:∀j g,out[j]? =some g→ah A.box (r (1000000+j))=some ⟨95,aa File.flat (aR s g.at_)⟩∧ah A.box (r (2000000+j))=some ⟨3,aa ak g.at_⟩):LCut cx r A (jH s k out):=by
 refine⟨henv,⟨⟨?_,?_,?_⟩,⟨?_,?_,?_⟩,?_⟩,tF fun _ _ _ _ _ _ h=>hr _ _ h,fun b g h=>by rw[hF] at h;cases h⟩
 ·rw[h0,qP (by simp[Stt.flat])]
 ·exact df (by show 0<4000000;omega)
 ·exact jv (by simp[Stt.flat]) _
 ·rw[h1,o9 (q:=fun b=>(r b.1,r b.2)) (vO _)]
  congr 2
  exact tH fun j hj=>by
   obtain⟨e1,e2⟩:=h2 j hj
   rw[e1,e2]
 ·exact df (by show 3001<4000000;omega)
 ·exact pg fun j x hj=>vP (df (by show 1000000+j<4000000;omega)) (df (by show 2000000+j<4000000;omega)) x
 ·refine vS (fun j y hy hn=> ?_) (fun j y hy hn=> ?_) (fun b g1 g2=>df (by show b<4000000;omega)) (by simpa using hl) (by simpa using hl)
  ·rw[List.getElem?_map,Option.map_eq_some_iff] at hy
   obtain⟨g,hg,rfl⟩:=hy
   exact(h3 j g hg).1
  ·rw[List.getElem?_map,Option.map_eq_some_iff] at hy
   obtain⟨g,hg,rfl⟩:=hy
   exact(h3 j g hg).2
theorem aaJ (s:Stt) (k:Nat) (out:List Gr):ah (jH s k out).box 0=some ⟨32,s.flat⟩:=by rw[jH,bq,if_pos rfl]
theorem aaK (s:Stt) (k:Nat) (out:List Gr):ah (jH s k out).box 3001=some ⟨47,aS dI (fun j=>(1000000+j,2000000+j)) out⟩:=by rw[jH,bq,if_neg byOmega,bq,if_pos rfl]
theorem BV (s:Stt) (k:Nat) (out:List Gr) {b:Nat} (h:1000000≤b):ah (jH s k out).box b=ah (fJ s (out.map fun g=>aR s g.at_) (out.map Gr.at_)) b:=by rw[jH,bq,if_neg byOmega,bq,if_neg byOmega]
theorem BX {s:Stt} {k:Nat} {out:List Gr} (h:CgOk s k out) {j:Nat} {g:Gr} (hj:out[j]? =some g):ah (fJ s (out.map fun g=>aR s g.at_) (out.map Gr.at_)) (1000000+j)=some ⟨95,aa File.flat (aR s g.at_)⟩:=
 vQ (by rw[List.getElem?_map,hj];rfl) (h.ne (List.mem_of_getElem? hj))
theorem BZ {s:Stt} {k:Nat} {out:List Gr} (h:CgOk s k out) (hl:out.length≤1000) {j:Nat} {g:Gr} (hj:out[j]? =some g):ah (fJ s (out.map fun g=>aR s g.at_) (out.map Gr.at_)) (2000000+j)=some ⟨3,aa ak g.at_⟩:=
 vR (by simpa using hl) (by rw[List.getElem?_map,hj];rfl) (h.o.ne g (List.mem_of_getElem? hj))
theorem aaL {s:Stt} {k:Nat} {out:List Gr} (h:CgOk s k out) {i j:Nat} {g:Gr} (hj:out[j]? =some g) (hji:j≠i):ah (fJ s ((out.map fun g=>aR s g.at_).set i []) ((out.map Gr.at_).set i [])) (1000000+j)=some ⟨95,aa File.flat (aR s g.at_)⟩:=
 vQ (by rw[List.getElem?_set_ne (Ne.symm hji),List.getElem?_map,hj];rfl) (h.ne (List.mem_of_getElem? hj))
theorem aaM {s:Stt} {k:Nat} {out:List Gr} (h:CgOk s k out) (hl:out.length≤1000) {i j:Nat} {g:Gr} (hj:out[j]? =some g) (hji:j≠i):ah (fJ s ((out.map fun g=>aR s g.at_).set i []) ((out.map Gr.at_).set i [])) (2000000+j)=some ⟨3,aa ak g.at_⟩:=
 vR (by simpa using hl) (by rw[List.getElem?_set_ne (Ne.symm hji),List.getElem?_map,hj];rfl) (h.o.ne g (List.mem_of_getElem? hj))
def jI (i:Nat) (x:Nat):Nat:=cZ 7 (1000000+i) (cZ 8 (2000000+i) x)
theorem aaN {cx:Cx} (hF:cx.F=fun _=>none) {s:Stt} {k:Nat} {out:List Gr} (h:CgOk s k out) (i:Nat) (g:Gr) (hl:out.length≤1000) (hi:out[i]? =some g):LCut cx (jI i) (jH s k out) (BU s k out i g):=by
 have hil:=(List.getElem?_eq_some_iff.1 hi).1
 have s0:jI i 0=0:=by rw[jI,bv (x:=0) byOmega byOmega,bv byOmega byOmega]
 have s1:jI i 3001=3001:=by rw[jI,bv (x:=3001) byOmega byOmega,bv byOmega byOmega]
 have s7:jI i 7=1000000+i:=by rw[jI,bv (x:=7) byOmega byOmega,mD]
 have s8:jI i 8=2000000+i:=by rw[jI,mD,bv byOmega byOmega]
 have sA:∀j,j<out.length→j≠i→jI i (1000000+j)=1000000+j:=fun j hj hji=>by rw[jI,bv (x:=1000000+j) byOmega byOmega,bv byOmega byOmega]
 have sB:∀j,j<out.length→j≠i→jI i (2000000+j)=2000000+j:=fun j hj hji=>by rw[jI,bv (x:=2000000+j) byOmega byOmega,bv byOmega byOmega]
 have nx:(BU s k out i g).next=4000000:=rfl
 refine⟨?_,⟨⟨?_,?_,?_⟩,⟨?_,?_,?_⟩,⟨?_,?_,?_⟩,⟨?_,?_,?_⟩,?_⟩,tF fun _ _ _ _ _ _ h=>mr (mr h),fun b g h=>by rw[hF] at h;cases h⟩
 ·simp[jH,BU,gG,jM,bf,s0,s1,dW,pF]
 ·rw[s0,aaJ,qP (by simp[Stt.flat])]
 ·exact df byOmega
 ·exact jv (by simp[Stt.flat]) _
 ·rw[s1,aaK,o9 (q:=fun b=>(jI i b.1,jI i b.2)) (vO _)]
  congr 2
  refine tH fun j hj=> ?_
  by_cases hji:j=i
  ·rw[if_pos hji,s7,s8,hji]
  ·rw[if_neg hji,sA j hj hji,sB j hj hji]
 ·exact df byOmega
 ·refine pg fun j x hj=>vP (df ?_) (df ?_) x
  all_goals(split<;>simp only<;>omega)
 ·rw[s7,BV _ _ _ byOmega,BX h hi,qP (pq oQ _)]
 ·exact df byOmega
 ·exact jv (pq oQ _) _
 ·rw[s8,BV _ _ _ byOmega,BZ h hl hi,qP (pq qR _)]
 ·exact df byOmega
 ·exact jv (pq qR _) _
 ·refine vS (fun j y hy hn=> ?_) (fun j y hy hn=> ?_) (fun b g1 g2=>df byOmega) (by simpa using hl) (by simpa using hl)
  ·by_cases hji:i=j
   ·subst hji
    rw[List.getElem?_set_self (by simpa using hil)] at hy
    injection hy with hy
    exact absurd hy.symm hn
   ·rw[List.getElem?_set_ne hji,List.getElem?_map,Option.map_eq_some_iff] at hy
    obtain⟨x,hx,rfl⟩:=hy
    have hjl:=(List.getElem?_eq_some_iff.1 hx).1
    rw[sA j hjl (Ne.symm hji),BV _ _ _ byOmega,BX h hx]
  ·by_cases hji:i=j
   ·subst hji
    rw[List.getElem?_set_self (by simpa using hil)] at hy
    injection hy with hy
    exact absurd hy.symm hn
   ·rw[List.getElem?_set_ne hji,List.getElem?_map,Option.map_eq_some_iff] at hy
    obtain⟨x,hx,rfl⟩:=hy
    have hjl:=(List.getElem?_eq_some_iff.1 hx).1
    rw[sB j hjl (Ne.symm hji),BV _ _ _ byOmega,BZ h hl hx]
theorem aaO {box:ay} {t:TypeId} {s:Stt} {out:List Gr} {nm:Nat→Nat×Nat} (d:Nat) (hf:∀g,g∈out→(aR s g.at_).length=g.at_.length) (h:∀j g,out[j]? =some g→ah box (nm j).1=some ⟨95,aa File.flat (aR s g.at_)⟩∧ah box (nm j).2=some ⟨3,aa ak g.at_⟩):
 aH (some ⟨t,aS dI nm out⟩) (fz box (d+1)) 8 0 out.length (out.map (nP s)):=by
 have hl:=qO pz out nm
 refine⟨by rw[hl];omega,.inr ?_⟩
 rw[List.drop_zero,List.take_of_length_le (by rw[hl];omega)]
 refine FI fun i g hi=> ?_
 obtain⟨h1,h2⟩:=h i g hi
 have hfl:=hf g (List.mem_of_getElem? hi)
 refine⟨rfl,rfl,rfl,rfl,rfl,rfl,?_,?_,True.intro⟩
 ·rw[uq,h1]
  exact⟨⟨rfl,rfl,by omega,by rw[List.length_map,hfl],bS (F:=File.flat) (fun _=>rfl) _⟩,dR (F:=File.flat) (k:=7) (fun _=>rfl) oQ _ hfl.symm⟩
 ·exact KN d h2 rfl
end
end Go.Proofs.YtlikpcpllahalaaGreat.V
