/- Parts of the proof. -/
import Derived.Test.YtlikpcpllahalaaGreatG29
import Derived.Test.YtlikpcpllahalaaGreatG27
import Derived.Test.YtlikpcpllahalaaGreatG15
import Derived.Test.YtlikpcpllahalaaGreatG20
import Derived.Test.YtlikpcpllahalaaGreatG16
set_option maxHeartbeats 16000000
set_option linter.unusedSimpArgs false
set_option linter.unusedVariables false
namespace Go.Proofs.YtlikpcpllahalaaGreat.V
open Go.RowKit
set_option maxRecDepth 100000
section
attribute [local go_sem] Option.toList_some Option.toList_none
@[go_sem] theorem rowsCh_ren (r:Nat→Nat) {l:List Change}:((l.map Change.flat).flatten).map (AV.ren r)=(l.map Change.flat).flatten:=jh (fun x r=>by simp[Change.flat]) r l
@[go_sem] theorem rowsCh_nms (p:Nat→Bool) {l:List Change}:((l.map Change.flat).flatten).all (AV.names p)=true:=ji (fun x p=>by simp[Change.flat]) p l
theorem Va (h:History) (b:Int):Fun Tryz.prog 169 [.agg h.flat,int b] (.fn (.func 198) [] [.pp h.flat,.pp [int b]]):=by
 refine af Tryz.func169 fun cx hN hR hF hL=> ?_
 exact run tt tt
theorem Vb {α:Type} (F:α→List AV) {p:α→Bool} {l:List α} {k:Nat} {y:List AV} (h:((l.filter p).map fun c=>[AV.agg (F c)])[k]? =some y):∃c,(l.filter p)[k]? =some c∧y=[.agg (F c)]∧(l.filter p).take (k+1)=(l.filter p).take k++[c]∧k<(l.filter p).length:=by
 rw[List.getElem?_map] at h
 obtain⟨c,hc,rfl⟩:=Option.map_eq_some_iff.1 h
 exact⟨c,hc,rfl,by rw[List.take_add_one,hc];rfl,(List.getElem?_eq_some_iff.1 hc).1⟩
theorem Vd (h:History) (b:Int) (hl:h.changes.length≤100000) (hcc:∀c,c∈h.changes→c.covers.length≤100000):Fun Tryz.prog 197 [.v (.slice none 0 0),.fn (.func 198) [] [.pp h.flat,.pp [int b]]] (jg (h.changes.filter (iV b))):=by
 have hit:=U9 h b hl hcc
 have hPl:(h.changes.filter (iV b)).length≤100000:=Nat.le_trans (List.length_filter_le _ _) hl
 have hft:= @Vb Change Change.flat (iV b) h.changes
 generalize h.changes.filter (iV b)=P at *
 refine lq Tryz.func197 rfl (Nat.le_of_ble_eq_true rfl) fun cx hN hR hF hL=> ?_;apply dS;(case hA=>(simp only[go_sem,↓reduceIte];rfl))
 (refine aD ?_)
 refine' run tt (l1 ?_)
 refine eX ?_
 (refine aD ?_)
 refine' run tt (l1 ?_)
 refine DR ?_
 refine D6 mixed hR 2001 [(6,.fn (.func 198) [] [.pp h.flat,.pp [int b]]),(2,.ptr 0 0),(4,.v (.slice none 0 0))]
  (fun q:{k:Nat // k≤P.length}=>([(0,some ⟨129,[kH 2001 9 (P.take q.1)]⟩),(2001,kI 106 Change.flat (P.take q.1))],3000)) (fun q=>q.1) id ⟨0,Nat.zero_le _⟩
  (P.map fun c=>[AV.agg c.flat]) hit P8 ?_ rfl (fun b g h=>by rw[hF] at h;cases h) (by simp[go_sem]) rfl (by simp[go_sem]) (fun y hy=>by obtain⟨c,-,rfl⟩:=List.mem_map.1 hy;rfl) (by rw[hN];kernel_rfl) (by rw[hN];kernel_rfl) (by rw[hN];kernel_rfl) ?_ ?_
 ·have o1:=uH (t:=106) (F:=Change.flat) (l:=P.take 0) rfl
  have o3:=uF (b:=2001) (k:=9) (l:=P.take 0) rfl
  simp only[o1,o3]
  simp only[go_sem,↓reduceIte,hF]
 ·rintro⟨k,h0⟩ y hy cx1 hN1 hF1
  simp only at hy
  obtain⟨c,-,rfl,htk,hk⟩:=hft hy
  have hlen:(P.take k).length≤100000:=by rw[List.length_take];omega
  show W _ _ _ _ ⟨(7,.agg c.flat)::_,_,_⟩
  dsimp only
  generalize P.take k=O at *
  by_cases ho:O=[]
  ·simp only[uF ho,uH ho]
   refine' run tt (l1 ?_)
   intro cx2 hN2 hF2
   refine' run tt (l2 ?_ (l4 fun K hK=> ?_))
   ·refine⟨⟨k+1,hk⟩,eG 2001 4024,rfl,?_⟩
    subst ho
    simp only[htk,uG,Jw]
    simp only[go_sem,↓reduceIte,hF]
    exact fun b g h=>by have:=hF2 b g h;rw[if_neg byOmega];exact⟨by omega,rfl⟩
   all_goals(simp[maxLen])
  ·have hs1:((O.map Change.flat).flatten).length=O.length*9:=Ed (F:=Change.flat) (k:=9) (fun _=>rfl) O
   simp only[Jv ho,uI ho]
   refine' run tt (l1 ?_)
   intro cx2 hN2 hF2
   refine' run tt (l2 ?_ (l4 fun K hK=> ?_))
   ·refine⟨⟨k+1,hk⟩,eG 2001 4024,rfl,?_⟩
    simp only[htk,uG,Jw]
    simp only[go_sem,↓reduceIte,hF,List.map_append,List.all_append]
    exact fun b g h=>by have:=hF2 b g h;rw[if_neg byOmega];exact⟨by omega,rfl⟩
   all_goals(simp[maxLen,hs1];omega)
 ·rintro⟨k,h1⟩ hk
  simp only at hk
  obtain rfl:k=P.length:=by simpa using hk
  simp only[List.take_length]
  refine aL ?_
  by_cases ho:P=[]
  ·simp only[uF ho,uH ho]
   subst ho
   exact run tt tt
  ·simp only[Jv ho,uI ho]
   refine' run tt (l1 ?_)
   exact⟨bS (F:=Change.flat) (fun _=>rfl) _,dR (F:=Change.flat) (k:=9) (fun _=>rfl) Change.data _ rfl⟩
theorem Ve (h:History) (b:Int) (hl:h.changes.length≤100000) (hcc:∀c,c∈h.changes→c.covers.length≤100000):Fun Tryz.prog 168 [.fn (.func 198) [] [.pp h.flat,.pp [int b]]] (jg (h.changes.filter (iV b))):=by
 refine af Tryz.func168 fun cx hN hR hF hL=> ?_
 exact aj tt (Vd h b hl hcc) tt
def yg (h:History) (b:Int):Int:=if b<h.booked then 7 else 0
def Bh (h:History) (b:Int):History:=if b<h.booked then bg else oM h b
theorem Vf (h:History) (b:Int) (hl:h.changes.length≤100000) (hc:h.terms.covers.length≤100000) (hcc:∀c,c∈h.changes→c.covers.length≤100000):Fun Tryz.prog 130 [.agg h.flat,int b] (.tup [.agg (Bh h b).flat,int (yg h b)]):=by
 by_cases hb:b<h.booked
 ·have g0:(h.booked>b)=True:=eq_true hb
  rw[Bh,yg,if_pos hb,if_pos hb]
  refine af Tryz.func130 fun cx hN hR hF hL=> ?_
  refine' run (I g0 (decide_eq_true hb)) (l3 fun hq=> ?_)
  simp[bg,fG]
 ·have g0:(h.booked>b)=False:=eq_false hb
  have k3:=Ve h b hl hcc
  rw[Bh,yg,if_neg hb,if_neg hb]
  refine af Tryz.func130 fun cx hN hR hF hL=> ?_
  (repeat' first|focus ((try(revert K;refine bK ?_));refine' aj (I g0 (decide_eq_false hb)) (I (Va h b) k3) ?_;(repeat' first|exact tt|apply lv|(apply oK;intro K hK)|intro hq);all_goals apply lf)|refine mQ zk (xL _ _ hc) ?_)
  and_intros<;>rfl
end
section
attribute [local go_sem] Option.toList_some Option.toList_none xZ
theorem Vg (l:List Version) (f:Bool):Fun Tryz.prog 182 [.sl f 9 (l.map Version.flat)] (.fn (.func 218) [] [.pp [.sl f 9 (l.map Version.flat)]]):=by
 refine af Tryz.func182 fun cx hN hR hF hL=> ?_
 exact run tt tt
theorem Vh {α:Type} (F:α→List AV) (l:List α):∀y,y∈qx F l→y.length=2:=by
 intro y hy
 rw[qx,List.mem_map] at hy
 obtain⟨p,-,rfl⟩:=hy
 rfl
theorem Vi (l:List Version) (f:Bool) (d:Int) (hl:l.length≤100000) (hv:∀v,v∈l→v.age.length≤100000∧v.zone.length≤100000∧v.peril.length≤100000) (o:Option Version) (ho:o=nD l d):Fun Tryz.prog 146 [.agg [.sl f 9 (l.map Version.flat)],int d] (xZ o):=by
 have hit:=U4 l f hl
 refine lq Tryz.func146 rfl (Nat.le_of_ble_eq_true rfl) fun cx hN hR hF hL=> ?_;apply dS;(case hA=>(simp only[go_sem,↓reduceIte];rfl))
 (refine aD ?_)
 refine' run tt (l1 ?_)
 refine eX ?_
 (refine aD ?_)
 refine' aj tt (Vg l f) (l1 ?_)
 refine DR ?_
 refine D6 mixed hR 3000 [(10,.fn (.func 218) [] [.pp [.sl f 9 (l.map Version.flat)]]),(2,.ptr 0 0),(3,.ptr 8 0),(4,.ptr 16 0),(5,.ptr 24 0)]
  (fun q:{k:Nat // k≤l.length∧o=nD (l.take (l.length-k)) d}=>([(0,some ⟨24,[.sl f 9 (l.map Version.flat)]⟩),(8,some ⟨3,[int d]⟩),(16,some ⟨246,[int 0,int 0,int 0,int 0,int 0,.v (.slice none 0 0),.v (.slice none 0 0),.v (.slice none 0 0),int 0]⟩),(24,some ⟨37,[int 0]⟩)],3000)) (fun q=>q.1) id ⟨0,Nat.zero_le _,by rw[Nat.sub_zero,List.take_length];exact ho⟩
  (qx Version.flat l) hit P9 ?_ rfl (fun b g h=>by rw[hF] at h;cases h) (by simp[go_sem]) rfl (by simp[go_sem]) (Vh _ _) (by rw[hN];kernel_rfl) (by rw[hN];kernel_rfl) (by rw[hN];kernel_rfl) ?_ ?_
 ·simp only[go_sem,↓reduceIte,hF]
 ·rintro⟨k,h0,h1⟩ y hy cx1 hN1 hF1
  simp only at hy h1
  have hk:k<l.length:=by have:=(List.getElem?_eq_some_iff.1 hy).1;rwa [EH] at this
  obtain⟨i,hi⟩:∃i,k+i+1=l.length:=⟨l.length-1-k,by omega⟩
  rw[KV _ _ hi] at hy
  cases hy
  rw[show l.length-k=i+1 by omega,yc byOmega,UW] at h1
  have hvi:=hv (l[i]'byOmega) (List.getElem_mem _)
  have hki:l.length-(k+1)=i:=byOmega
  generalize (l[i]'byOmega)=v at *
  show W _ _ _ _ ⟨(12,.agg v.flat)::(11,int i)::_,_,_⟩
  dsimp only
  refine' run tt (l1 ?_)
  intro cx2 hN2 hF2
  by_cases hd:v.from_≤d
  ·rw[if_pos hd] at h1
   subst h1
   refine' aj (I (eq_true hd) (decide_eq_true hd)) (UV v hvi.1 hvi.2.1 hvi.2.2) (l3 fun hq=> ?_)
   rw[DZ]
   dsimp only
   exact run tt tt
  ·rw[if_neg hd] at h1
   refine' run (I (eq_false hd) (decide_eq_false hd)) (l3 fun hq=> ?_)
   refine⟨⟨k+1,hk,by rw[hki];exact h1⟩,id,rfl,?_⟩
   simp only[go_sem,↓reduceIte,hF]
   exact hF2
 ·rintro⟨k,h0,h1⟩ hk
  simp only at hk h1
  rw[EH] at hk
  subst hk
  rw[Nat.sub_self] at h1
  obtain rfl:o=none:=h1
  dsimp only
  refine aL ?_
  exact run tt tt
end
section
attribute [local go_sem] Option.toList_some Option.toList_none xZ Int.reduceEq Int.reduceNe
theorem KW {P:List Cover→Prop}:∀ {L:List Change} {s:St},P s.covers→(∀c,c∈L→P c.covers)→P (L.foldl jk s).covers
 | [],s,h,_=>h
 |c::L,s,h,hc=>by
  rw[List.foldl_cons]
  refine KW ?_ fun d hd=>hc d (by simp[hd])
  have:=hc c ai
  unfold jk
  split
  ·exact h
  ·split
   ·exact this
   ·split
    ·exact h
    ·split<;>exact h
theorem Vj {P:List Cover→Prop} {h:History} (h0:P h.terms.covers) (hc:∀c,c∈h.changes→P c.covers) (d:Int):P (qp h d).covers:=by
 rw[UX]
 exact KW h0 fun c hm=>hc c (List.mem_filter.1 (fO.1 hm)).1
theorem EI {P:List Cover→Prop} {h:History} (hr:iO h=true) (h0:P h.terms.covers) (hc:∀c,c∈h.changes→P c.covers):∀s,s∈il h→P s.st.covers:=fun s hs=>by
 have p:=ED (A9 hr) s hs
 rw[←p.2.2.2.2 s.from_ (Int.le_refl _) p.2.1]
 exact Vj h0 hc _
theorem EJ {f:Int→St} {t:Int}:∀ {l:List Int} {out:List Sl} {a:Int} {n:St},(oD f out a n l t).length≤out.length+l.length+1
 | [],out,a,n=>by simp[oD]
 |d::l,out,a,n=>by
  rw[oD]
  split
  ·have:= @EJ f t l out a n;simp;omega
  ·have:= @EJ f t l (out++[⟨a,d,n,0⟩]) d (f d);simp at this ⊢;omega
theorem KX {h:History} (hr:iO h=true):(il h).length≤h.changes.length+1:=by
 rw[UZ hr]
 have:= @EJ (qp h) h.terms.to_ ((aG jT h.changes).map Change.day) [] h.terms.from_ (qp h h.terms.from_)
 simpa[bZ] using this
section
variable {α:Type} {F:α→List AV} {k:Nat}
theorem uW (x:α) (l:List α):aa F (x::l)=F x++aa F l:=by simp[aa]
theorem KY (hk:∀x,(F x).length=k):∀(l:List α) (i:Nat) (x:α),l[i]? =some x→((aa F l).drop (i*k)).take k=F x
 | [],i,x,h=>by simp at h
 |y::l,0,x,h=>by
  simp at h;subst h
  rw[uW,Nat.zero_mul,List.drop_zero,←hk y,List.take_left]
 |y::l,i+1,x,h=>by
  rw[uW,Nat.add_mul,Nat.one_mul,Nat.add_comm,←List.drop_drop,←hk y,List.drop_left,hk y]
  exact KY hk l i x (by simpa using h)
theorem Bi (hk:∀x,(F x).length=k):∀(l:List α) (i:Nat) (x:α),i<l.length→(aa F l).take (i*k)++F x++(aa F l).drop (i*k+k)=aa F (l.set i x)
 | [],i,x,h=>by simp at h
 |y::l,0,x,h=>by
  rw[uW,Nat.zero_mul,List.take_zero,List.nil_append,Nat.zero_add,List.set_cons_zero,uW,←hk y,List.drop_left]
 |y::l,i+1,x,h=>by
  rw[uW,List.set_cons_succ,uW,←Bi hk l i x (by simpa using h)]
  rw[show(i+1)*k=(F y).length+i*k by rw[hk,Nat.add_mul,Nat.one_mul,Nat.add_comm],List.take_length_add_append,Nat.add_assoc,List.drop_length_add_append]
  simp
end
theorem KZ (l:List Sl) {i:Nat} {s:Sl} (h:l[i]? =some s):List.take 9 (List.drop (i*9) (aa Sl.flat l))=s.flat:=KY (F:=Sl.flat) (k:=9) (fun _=>rfl) l i s h
theorem Vk (l:List Sl) {i:Nat} {s:Sl} (h:l[i]? =some s) (y:Int):List.take (i*9+8) (aa Sl.flat l)++[int y]++List.drop (i*9+8+1) (aa Sl.flat l)=aa Sl.flat (l.set i ⟨s.from_,s.to_,s.st,y⟩):=by
 have hi:=(List.getElem?_eq_some_iff.1 h).1
 rw[←Bi (F:=Sl.flat) (k:=9) (fun _=>rfl) l i _ hi,List.take_add]
 have e:List.take 8 (List.drop (i*9) (aa Sl.flat l))=List.take 8 s.flat:=by rw[←KZ l h,List.take_take];rfl
 rw[e]
 simp[Sl.flat]
def mid (v:Version) (L:List Sl) (i:Nat):List Sl:=(L.take i).map (iU v)++L.drop i
theorem Vl (v:Version) (L:List Sl) (i:Nat):(mid v L i).length=L.length:=by simp[mid];omega
theorem Vm {v:Version} {L:List Sl} {i:Nat} (hi:i<L.length):(mid v L i)[i]? =some L[i]:=by
 rw[mid,List.getElem?_append_right (by simp;omega)]
 simp[Nat.min_eq_left (Nat.le_of_lt hi),hi]
theorem Bj {v:Version} {L:List Sl} {i:Nat} (hi:i<L.length):mid v L i=(L.take i).map (iU v)++L[i]::L.drop (i+1)∧mid v L (i+1)=(L.take i).map (iU v)++iU v L[i]::L.drop (i+1):=by
 refine⟨by rw[mid,List.drop_eq_getElem_cons hi],?_⟩
 rw[mid,List.take_succ_eq_append_getElem hi,List.map_append,List.append_assoc];rfl
theorem Vn {v:Version} {L:List Sl} {i:Nat} (hi:i<L.length):(mid v L i).set i (iU v L[i])=mid v L (i+1):=by
 have hl:((L.take i).map (iU v)).length=i:=by simp;omega
 rw[(Bj hi).1,(Bj hi).2,List.set_append_right _ _ byOmega,hl,Nat.sub_self,List.set_cons_zero]
theorem Vo {v:Version} {L:List Sl} {i:Nat} (hi:i<L.length) (h:iU v L[i]=L[i]):mid v L (i+1)=mid v L i:=by
 rw[(Bj hi).1,(Bj hi).2,h]
theorem Vp {v:Version} {L:List Sl} {i:Nat} (hi:i<L.length):nE v (L.drop i)=if qw v L[i].st=0 then nE v (L.drop (i+1)) else qw v L[i].st:=by
 rw[List.drop_eq_getElem_cons hi,nE]
theorem K4 (h:History) (T:List Version) (hl:h.changes.length≤50000) (hc:h.terms.covers.length≤100000) (hcc:∀c,c∈h.changes→c.covers.length≤100000) (hT:T.length≤100000) (hv:∀v,v∈T→v.age.length≤100000∧v.zone.length≤100000∧v.peril.length≤100000):
 Fun Tryz.prog 105 [.agg h.flat,.agg [dh T]] (.tup [cK (gP h T),int (gz h T)]):=by
 have k1:=TS h byOmega
 by_cases hr:iO h=true
 ·rw[hr] at k1
  have k2:=Vi T false h.terms.from_ hT hv _ rfl
  rcases hver:nD T h.terms.from_ with _|v
  ·have hE:gz h T=7:=by rw[gz,if_pos hr,hver]
   have hS:gP h T=[]:=yf (by rw[hE];decide)
   rw[hE,hS]
   rw[hver] at k2
   refine af Tryz.func105 fun cx hN hR hF hL=> ?_
   exact aj tt (I k1 k2) tt
  ·have hE:gz h T=nE v (il h):=by rw[gz,if_pos hr,hver]
   have hS:gP h T=if nE v (il h)=0 then(il h).map (iU v) else[]:=by rw[gP,hE,hver]
   have kc:=Uq h hl hc hcc (U0 hr)
   have hcv:=EI (P:=fun l=>l.length≤100000) hr hc hcc
   have hpz:∀s,s∈il h→s.yearly=0:=fun s hs=>(ED (A9 hr) s hs).2.2.2.1
   have hlen:=KX hr
   rw[hE,hS]
   rw[hver] at k2
   generalize il h=L at *
   refine af Tryz.func105 fun cx hN hR hF hL=> ?_
   refine' aj tt (I k1 k2) (lv (fun hq=>fun hq=>o4 fun K hK=> ?_) tt)
   (refine aB [4008] (kc) ?_)
   (revert K;refine bK ?_;refine' run tt (l1 ?_))
   refine aX (σ:={i:Nat // i≤L.length∧nE v (L.drop i)=nE v L}) (fun s=>⟨[(30,int s.1),(6,.ptr 2072 0),(8,.osl 4008 9 0 L.length),(28,.osl 4008 9 0 L.length),(29,int L.length)],[(2072,some ⟨246,v.flat⟩),(4008,some ⟨200,aa Sl.flat (mid v L s.1)⟩)],8000⟩) (fun s=>L.length-s.1) id ⟨0,Nat.zero_le _,rfl⟩ ?_ ?_
   ·simp only[go_sem,↓reduceIte,hF]
    exact⟨rfl,rfl⟩
   ·rintro⟨i,h1,h2⟩
    simp only at h1 h2 ⊢
    by_cases hi:i<L.length
    ·have e2:=wS i
     have b0:((i:Int)<(L.length:Int))=True:=eT
     have hat:=Vm (v:=v) hi
     have e3:=KZ (mid v L i) hat
     have e4:=Vk (mid v L i) hat
     have e5:=uN (mid v L i)
     rw[Vl] at e5
     have hms:=Vn (v:=v) hi
     have hsm:=Vo (v:=v) hi
     rw[Vp hi] at h2
     have hcl:=hcv _ (List.getElem_mem hi)
     have hyz:=hpz _ (List.getElem_mem hi)
     have e7:(aa Sl.flat (mid v L i)=[])=False:=eq_false (by rw[←List.length_eq_zero_iff];omega)
     generalize L[i]=s at *
     have e6:(i*9+9≤L.length*9)=True:=eT
     cases hon:s.st.on
     ·have hs:iU v s=s:=by simp[iU,uU,hon,←hyz]
      have he:qw v s.st=0:=by simp[qw,hon]
      rw[if_pos he] at h2
      have hm:=hsm hs
      refine' run (I b0 (I (decide_eq_true (of_eq_true b0)) (I e2 (I e3 (I e5 (I e6 (I e7 hon))))))) (lv (fun hq=>fun hq=>lf ?_) tt)
      refine⟨⟨i+1,hi,h2⟩,id,?_,mS⟩
      simp only[hm]
      simp only[go_sem,↓reduceIte,hF]
     ·have ky:=UT v s.st.rk s.st.rv s.st.ra s.st.rz s.st.covers false hcl
      have hs4:=e4 (oL v s.st.rk s.st.rv s.st.ra s.st.rz s.st.covers).1
      have hsy:iU v s=⟨s.from_,s.to_,s.st,(oL v s.st.rk s.st.rv s.st.ra s.st.rz s.st.covers).1⟩:=by simp[iU,uU,hon]
      have hey:qw v s.st=(oL v s.st.rk s.st.rv s.st.ra s.st.rz s.st.covers).2:=by simp[qw,hon]
      rw[←hsy,hms] at hs4
      rw[hey] at h2
      by_cases hz:(oL v s.st.rk s.st.rv s.st.ra s.st.rz s.st.covers).2=0
      ·rw[if_pos hz] at h2
       rw[hz] at ky
       refine' aj (I b0 (I (decide_eq_true (of_eq_true b0)) (I e2 (I e3 (I e5 (I e6 (I e7 hon))))))) ky (lv (fun hq=>fun hq=>fun hq=>lf ?_) tt)
       refine⟨⟨i+1,hi,h2⟩,id,?_,mS⟩
       simp only[hs4]
       simp only[go_sem,↓reduceIte,hF]
      ·rw[if_neg hz] at h2
       rw[←h2,if_neg hz]
       exact aj (I b0 (I (decide_eq_true (of_eq_true b0)) (I e2 (I e3 (I e5 (I e6 (I e7 (I hon (I (eq_false hz) (decide_eq_false hz)))))))))) ky tt
    ·obtain rfl:i=L.length:=byOmega
     have b9:((L.length:Int)<(L.length:Int))=False:=eF
     have hz:nE v L=0:=by rw[←h2,List.drop_length];rfl
     have hm:mid v L L.length=L.map (iU v):=by simp[mid]
     rw[hz,if_pos rfl]
     refine' run (I b9 (I (decide_eq_false (of_eq_false b9)) hm)) (l3 fun hq=> ?_)
     exact⟨bS (F:=Sl.flat) (k:=9) (fun _=>rfl) _,dR (F:=Sl.flat) (k:=9) (fun _=>rfl) Sl.data _ ai⟩
 ·rw[Bool.not_eq_true] at hr
  have hE:gz h T=1:=by rw[gz,if_neg (by simp[hr])]
  have hS:gP h T=[]:=yf (by rw[hE];decide)
  rw[hE,hS]
  rw[hr] at k1
  refine af Tryz.func105 fun cx hN hR hF hL=> ?_
  exact aj tt k1 tt
end
section
attribute [local go_sem] Option.toList_some Option.toList_none
def K5 (s:St):Sl:=⟨0,0,s,0⟩
attribute [local go_sem] K5 rT
end
section
attribute [local go_sem] Option.toList_some Option.toList_none xZ K5 Int.reduceEq Int.reduceNe
end
section
attribute [local go_sem] Option.toList_some Option.toList_none Int.reduceEq Int.reduceNe
def Small (h:History) (T:List Version):Prop:=(h.changes.length≤1000∧h.terms.covers.length≤1000∧∀c,c∈h.changes→c.covers.length≤1000)∧T.length≤1000∧∀v,v∈T→v.age.length≤1000∧v.zone.length≤1000∧v.peril.length≤1000
theorem Small.known {h:History} {T:List Version} (hs:Small h T) (b:Int):Small (oM h b) T:=by
 obtain⟨⟨h1,h2,h3⟩,h4⟩:=hs
 exact⟨⟨Nat.le_trans (List.length_filter_le _ _) h1,h2,fun c hc=>h3 c (List.mem_filter.1 hc).1⟩,h4⟩
def kE (h:History) (T:List Version) (b:Int):Int:=if b<h.booked then 7 else gz (oM h b) T
def kS (h:History) (T:List Version) (b:Int):List Sl:=if b<h.booked then[] else gP (oM h b) T
theorem K6 {h:History} {T:List Version}:(gP h T).length≤h.changes.length+1:=by
 by_cases he:gz h T=0
 ·obtain⟨hr,v,-,hs⟩:=Bg he
  rw[hs,List.length_map];exact KX hr
 ·rw[yf he];simp
theorem EK {h:History} {T:List Version} {b:Int}:(kS h T b).length≤h.changes.length+1:=by
 unfold kS
 split
 ·simp
 ·exact Nat.le_trans K6 (Nat.add_le_add_right (List.length_filter_le _ _) 1)
theorem Vq (h:History) (T:List Version) (b:Int) (hs:Small h T):Fun Tryz.prog 83 [.agg h.flat,.agg [dh T],int b] (.tup [cK (kS h T b),int (kE h T b)]):=by
 have hs2:=hs.known b
 obtain⟨⟨h1,h2,h3⟩,h4,h5⟩:=hs
 obtain⟨⟨g1,g2,g3⟩,-,-⟩:=hs2
 have k1:=Vf h b byOmega byOmega (fun c hc=>by have:=h3 c hc;omega)
 by_cases hb:b<h.booked
 ·rw[kS,kE,if_pos hb,if_pos hb]
  rw[yg,if_pos hb] at k1
  refine af Tryz.func83 fun cx hN hR hF hL=> ?_
  exact aj tt k1 tt
 ·have k2:=K4 (oM h b) T byOmega byOmega (fun c hc=>by have:=g3 c hc;omega) byOmega (fun v hv=>by have:=h5 v hv;omega)
  rw[kS,kE,if_neg hb,if_neg hb]
  rw[yg,Bh,if_neg hb,if_neg hb] at k1
  generalize gz (oM h b) T=e at *
  generalize gP (oM h b) T=l at *
  generalize oM h b=g at *
  refine af Tryz.func83 fun cx hN hR hF hL=> ?_
  exact aj tt (I k1 k2) tt
attribute [local go_sem] lH zO KS
end
section
attribute [local go_sem] Option.toList_some Option.toList_none Int.reduceEq Int.reduceNe
abbrev mh (e:Int):List PanicEntry:=[{v:= .iface 37 (.int .i64 e),recovered:=false}]
theorem Vr:Fun Tryz.prog 178 [int 0] (.tup []):=by
 refine af Tryz.func178 fun cx hN hR hF hL=> ?_
 exact run tt tt
theorem K7 {e:Int} (he:e≠0):mR Tryz.prog 178 [int e] (mh e):=by
 intro M w vs hM hsz hvs
 obtain⟨v,rfl⟩:∃v,vs= #[v]:=by
  refine⟨vs[0]'(by simp at hsz;omega),?_⟩
  apply Array.ext
  ·simpa using hsz
  ·intro i h1 h2
   have:i=0:=by simp at h2;omega
   subst this;rfl
 have hv:RepA (fun _=>none) M w v (int e):= .d (hvs 0 v _ rfl rfl)
 obtain rfl:=hv.ofV
 clear hvs hv hsz
 go_enter Tryz.func178,Tryz.ntmps178
 go_wp2
 exact⟨rfl,rfl,Below.refl _ _⟩
theorem Vs {w:World} {b:Nat} {c:Array Value} {t:TypeId} (hg:w.heap[b]? =some (.cells c t (0,0))) (h0:0<c.size) (v:Value):(w.setCell ⟨b,0,none⟩ v).heap=(w.setRow b (laid c [v])).heap:=by
 apply Array.ext_getElem?
 intro j
 by_cases hj:j=b
 ·subst hj
  rw[setRow_heap _ _ c _ t _ hg]
  show(w.heap.modify j _)[j]? =_
  rw[Array.getElem?_modify,if_pos rfl,hg]
  simp only[Option.map_some,Option.isSome_none,Bool.false_eq_true,if_false]
  congr 2
  apply Array.ext'
  simp only[laid,Array.toList_setIfInBounds,List.length_singleton]
  have h0:0<c.toList.length:=by simpa using h0
  cases hc:c.toList with
  |nil=>rw[hc] at h0;simp at h0
  |cons a l=>rfl
 ·rw[setRow_other _ _ _ _ hj]
  show(w.heap.modify b _)[j]? =_
  rw[Array.getElem?_modify,if_neg byOmega]
theorem uX:DT Tryz.prog 176 1:=by
 intro bs w hb
 obtain⟨b,rfl⟩:∃b,bs=[b]:=by
  match bs,hb with
  | [b],_=>exact⟨b,rfl⟩
 refine callsDIn_of_wpSIn Tryz.func176 rfl trivial fun c₀ cs hu=> ?_
 apply wpSIn_seq
 apply wpSIn_region
 simp[wpOpsSIn,go_sem,recoverD,hu,Tryz.ntmps176,Exit.thenS,aT,ptrs,Array.replicate]
 apply wpSIn_seq
 apply wpSIn_region
 simp[wpOpsSIn,go_sem,Exit.thenS]
 refine wpSIn_cond (t:=false) (by simp[Act.eval]) ?_
 simp only[Bool.false_eq_true,if_false]
 refine wpSIn_of_wpIn rfl (wpIn_skip ?_)
 cases c₀
 simp_all[bodyPostS,results,Tryz.results176]
theorem Bl (e:Int):DU Tryz.prog 176 (.iface 37 (.int .i64 e)) [[.int .i64 e]]:=by
 intro bs w hb hnd hbl
 obtain⟨b,rfl⟩:∃b,bs=[b]:=by
  match bs,hb with
  | [b],_=>exact⟨b,rfl⟩
 obtain⟨c,t,hg,hl⟩:=hbl 0 b _ rfl rfl
 refine callsDIn_of_wpSIn Tryz.func176 rfl trivial fun c₀ cs hu=> ?_
 apply wpSIn_seq
 apply wpSIn_region
 simp[wpOpsSIn,go_sem,recoverD,hu,Tryz.ntmps176,Exit.thenS,aT,ptrs,Array.replicate]
 apply wpSIn_seq
 apply wpSIn_region
 simp[wpOpsSIn,go_sem,Exit.thenS]
 refine wpSIn_cond (t:=true) (by simp[Act.eval]) ?_
 simp only[if_true]
 have h0:0<c.size:=by have:=hl;simp at this;omega
 have hta:∀w:World,(Instr.typeAssert (.iface 37 (.int .i64 e)) 20 37 true).run Tryz.prog w= .ok (.tuple #[.int .i64 e,.bool true]) w:=fun w=>by
  simp[Instr.typeAssert,run_underlying Tryz.underlying37]
 have hc:w.cell? ⟨b,0,none⟩=some c[0]:=by simp[World.cell?,hg,h0]
 have hz:w.frozen? ⟨b,0,none⟩=false:=by simp[World.frozen?,hg]
 apply wpSIn_region
 simp[wpOpsSIn,go_sem,hta,hc,hz,bodyPostS,results,Tryz.results176]
 exact⟨c,t,hg,hl,Vs hg h0 _,rfl,rfl,rfl⟩
end
section
section
variable {α:Type} {lt:α→α→Bool}
end
end
def lJ:List Int→Int
 | []=>0
 |a::l=>if a=0 then lJ l else a
theorem Vt (l:List Int):Fun Tryz.prog 115 [ints l] (int (lJ l)):=by
 refine af Tryz.func115 fun cx hN hR hF hL=> ?_
 simp at hL
 have hl:=hL.1
 simp[maxLen] at hl
 refine' run tt (l1 ?_)
 generalize hRr:lJ l=R
 refine aX (σ:={i:Nat // i≤l.length∧lJ (l.drop i)=R}) (fun s=>⟨[(8,int s.1),(7,int l.length),(6,ints l),(3,int 0)],[],3000⟩) (fun s=>l.length-s.1) id ⟨0,by omega,hRr⟩ ?_ ?_
 ·simp only[go_sem,↓reduceIte,hF]
  rfl
 ·rintro⟨i,h1,h2⟩
  by_cases hi:i<l.length
  ·have hq:l[i]? =some l[i]:=List.getElem?_eq_getElem hi
   have e1:(l.map ak)[i]? =some (ak l[i]):=by rw[List.getElem?_map,hq];rfl
   have e5:=wS i
   have hk1:i<(l.map ak).length:=by simpa using hi
   rw[List.drop_eq_getElem_cons hi,lJ] at h2
   generalize l[i]=q at *
   by_cases h0:q=0
   ·have h0':=eq_true h0
    rw[if_pos h0] at h2
    subst h0
    refine' run (I e1 (I e5 hk1)) (lv (fun hq=>fun hq=>lf ?_) tt)
    refine⟨⟨i+1,hi,h2⟩,id,?_,mS⟩
    simp only[go_sem,↓reduceIte,hF]
   ·have h0':=eq_false h0
    rw[if_neg h0] at h2
    subst h2
    exact run (I e1 (I e5 (I hk1 h0'))) tt
  ·obtain rfl:i=l.length:=byOmega
   rw[List.drop_length,lJ] at h2
   subst h2
   exact run tt tt
structure Stp where
 file:Int
 act:Act
deriving DecidableEq
@[go_sem] def aO (s:Stp):List AV:=[int s.file,int s.act.booked,int s.act.kind,int s.act.amt]
@[simp] theorem trow_data (s:Stp):(∀y,y∈aO s→AV.isData y=true)↔True:=by simp[aO]
@[go_sem] theorem rowT_ren (r:Nat→Nat) (l:List Stp):(aa aO l).map (AV.ren r)=aa aO l:=jh (fun x r=>by simp[aO]) r l
@[go_sem] theorem Vu (p:Nat→Bool) (l:List Stp):(aa aO l).all (AV.names p)=true:=ji (fun x p=>by simp[aO]) p l
theorem qy (p:Nat→Bool) (l:List Stp):(∀x,x∈aa aO l→AV.names p x=true)↔True:=by
 simp only[iff_true]
 exact List.all_eq_true.1 (Vu p l)
theorem jV (l:List Stp):(aa aO l).length=l.length*4:=dU (F:=aO) (k:=4) (fun _=>rfl) l
theorem Bn (x:Stp) (l:List Stp):aa aO (x::l)=aO x++aa aO l:=by simp[aa]
theorem K8 {l:List Stp} (h:l≠ []):(aa aO l=[])↔False:=by
 rw[iff_false,←List.length_eq_zero_iff,jV]
 have:=List.length_pos_iff.2 h
 omega
theorem gQ {l:List Stp} (h:0<l.length):(aa aO l=[])↔False:=K8 (List.length_pos_iff.1 h)
theorem jm {l:List Stp} {i:Nat} {x:Stp} (h:l[i]? =some x):((aa aO l).drop (i*4)).take 4=aO x:=by
 induction l generalizing i with
 |nil=>simp at h
 |cons y l ih=>
  rw[Bn]
  rcases i with _|i
  ·simp at h;subst h;simp[aO]
  ·have h':l[i]? =some x:=by simpa using h
   have:(i+1)*4=4+i*4:=byOmega
   rw[this,←List.drop_drop]
   simp only[aO,List.cons_append,List.nil_append,List.drop_succ_cons,List.drop_zero]
   exact ih h'
theorem qz (l:List Stp) (i:Nat) (x:Stp) (h:i<l.length):List.take (i*4) (aa aO l)++[int x.file,int x.act.booked,int x.act.kind,int x.act.amt]++List.drop (i*4+4) (aa aO l)=aa aO (l.set i x):=by
 induction l generalizing i with
 |nil=>simp at h
 |cons y l ih=>
  rw[Bn]
  rcases i with _|i
  ·simp[Bn,aO]
  ·have h':i<l.length:=by simpa using h
   have:=ih i h'
   rw[List.set_cons_succ,Bn,←this,show(i+1)*4=i*4+4 by omega,show i*4+4+4=(i*4+4)+4 by omega]
   simp[aO]
@[go_sem] theorem EL (j n:Nat):(j*4+4≤n*4)=(j<n):=propext ⟨fun h=>by omega,fun h=>by omega⟩
def aK (x y:Stp):Bool:=decide (x.act.booked<y.act.booked)||(decide (x.act.booked=y.act.booked)&&decide (x.file<y.file))
theorem jo:SW aK:=by
 constructor<;>simp only[aK,Bool.or_eq_true,Bool.and_eq_true,decide_eq_true_eq,Bool.or_eq_false_iff,Bool.and_eq_false_iff,decide_eq_false_iff_not]<;>intros<;>omega
def mi (x y:Stp):Int:=lJ [gm x.act.booked y.act.booked,gm x.file y.file]
theorem qA (x y:Stp):decide (mi x y<0)=aK x y:=by
 unfold mi aK gm
 generalize x.act.booked=a
 generalize y.act.booked=b
 generalize x.file=c
 generalize y.file=d
 rcases Int.lt_trichotomy a b with h|h|h
 ·have h1:¬b<a:=byOmega
  simp[lJ,h]
 ·subst h
  rcases Int.lt_trichotomy c d with h|h|h
  ·simp[lJ,h]
  ·subst h;simp[lJ]
  ·have h1:¬c<d:=byOmega
   simp[lJ,h,h1]
 ·have h1:¬a<b:=byOmega
  have h2:¬a=b:=byOmega
  simp[lJ,h,h1,h2]
theorem yh (x y:Stp):Fun Tryz.prog 63 [.agg (aO x),.agg (aO y)] (int (mi x y)):=by
 refine af Tryz.func63 fun cx hN hR hF hL=> ?_
 (repeat' first|focus ((try(revert K;refine bK ?_));refine' aj tt JU ?_;(repeat' first|exact tt|apply lv|(apply oK;intro K hK)|intro hq);all_goals apply lf)|(with_reducible apply aU [1096] PX (Vt [gm x.act.booked y.act.booked,gm x.file y.file]);(case hy|hl|hk=>(simp only[go_sem,↓reduceIte];try with_unfolding_all rfl));(case hz=>(with_unfolding_all simp[go_sem,aH];done))))
 rfl
abbrev uY (l:List Act):AV:= .sl false 3 (l.map Act.flat)
structure File where
 claim:Claim
 acts:List Act
deriving DecidableEq
@[go_sem] def File.flat (f:File):List AV:=[int f.claim.id,int f.claim.policy,int f.claim.peril,int f.claim.loss,int f.claim.booked,int f.claim.event,uY f.acts]
abbrev dW (l:List File):AV:= .sl false 7 (l.map File.flat)
structure Pos where
 gross:Int
 shown:Int
 paid:Int
 back:Int
 reserve:Int
 opn:Bool
deriving DecidableEq
@[go_sem] def Pos.flat (p:Pos):List AV:=[int p.gross,int p.shown,int p.paid,int p.back,int p.reserve,bool p.opn]
abbrev yj (l:List Pos):AV:= .sl false 6 (l.map Pos.flat)
def jq (m bp:Int):Int:=
 let q:=m*bp/10000
 let r:=m*bp%10000
 if r>10000-r∨(r=10000-r∧q%2=1) then q+1 else q
theorem K9 {m bp:Int} (h1:0≤m) (h2:1≤bp) (h3:bp≤10000):0≤jq m bp∧jq m bp≤m:=by
 have g1:0≤m*bp:=Int.mul_nonneg h1 byOmega
 have g2:m*bp≤m*10000:=Int.mul_le_mul_of_nonneg_left h3 h1
 unfold jq
 simp only
 generalize m*bp=x at *
 split<;>omega
theorem Vv {m n bp:Int} (h:m≤n) (h2:1≤bp):jq m bp≤jq n bp:=by
 have g2:m*bp≤n*bp:=Int.mul_le_mul_of_nonneg_right h byOmega
 unfold jq
 simp only
 generalize m*bp=x at *
 generalize n*bp=y at *
 split<;>split<;>omega
def EM (p l a d s:Int):Bool:=decide (0≤p)&&decide (p<8)&&decide (1≤s)&&decide (s≤10000)&&decide (0≤d)&&decide (d<l)&&decide (l≤a)&&decide (a≤1000000000000000)
def Cover.rightB (c:Cover):Bool:=EM c.peril c.limit c.agg c.ded c.share
theorem kL {p l a d s:Int}:EM p l a d s=true↔0≤p∧p<8∧1≤s∧s≤10000∧0≤d∧d<l∧l≤a∧a≤1000000000000000:=by
 simp[EM,and_assoc]
def gT (c:Cover) (loss:Int):Int:=jq (max (min (loss-c.ded) c.limit) 0) c.share
def pays (c:Cover) (loss used:Int):Int:=if c.rightB=true∧0≤loss∧0≤used then max (min (gT c loss) (c.agg-used)) 0 else 0
theorem oO {c:Cover} (h:c.rightB=true) (loss:Int):0≤gT c loss∧gT c loss≤max (min (loss-c.ded) c.limit) 0:=by
 have h2:=kL.1 h
 exact K9 byOmega byOmega byOmega
theorem EN {c:Cover} (h:c.rightB=true) {a b:Int} (hab:a≤b):gT c a≤gT c b:=by
 have h2:=kL.1 h
 exact Vv byOmega byOmega
theorem yl {c:Cover} (h:c.rightB=true) (loss:Int) {used:Int} (h2:used≤c.agg):0≤pays c loss used∧pays c loss used≤c.agg-used∧pays c loss used≤gT c loss:=by
 have:=oO h loss
 unfold pays
 split<;>omega
structure StA where
 gross:Int
 shown:Int
 back:Int
 opn:Bool
deriving DecidableEq
def eY (s:StA) (a:Act):StA:=
 if a.kind=1 then⟨a.amt,s.shown,s.back,s.opn⟩ else if a.kind=2 then⟨s.gross,IntKind.i64.wrap (s.shown+a.amt),s.back,s.opn⟩
 else if a.kind=3 then⟨s.gross,s.shown,IntKind.i64.wrap (s.back+a.amt),s.opn⟩ else if a.kind=4 then⟨s.gross,s.shown,s.back,false⟩ else if a.kind=5 then⟨s.gross,s.shown,s.back,true⟩ else s
def dw (l:List Act):StA:=l.foldl eY ⟨0,0,0,true⟩
theorem uZ (l:List Act) (a:Act):dw (l++[a])=eY (dw l) a:=by simp[dw]
def iq (l:List Act):Pos:=⟨max (dw l).gross (dw l).shown,(dw l).shown,0,(dw l).back,0,(dw l).opn⟩
def iw (n a b:Int):Bool:=decide (a≤n)&&decide (n≤b)
theorem EO {n a b:Int}:iw n a b=true↔a≤n∧n≤b:=by simp[iw]
def Claim.formedB (c:Claim):Bool:=(iw c.id 1 1000000000&&iw c.policy 1 1000000000&&iw c.event 0 1000000000)&&(iw c.loss 1 292194&&iw c.booked 1 292194)&&iw c.peril 0 7
def Act.rightB (a:Act):Bool:=iw a.booked 1 292194&&iw a.kind 1 5&&iw a.amt 0 (if a.kind=4∨a.kind=5 then 0 else 1000000000000000)
def nG (f:File):Int:=match f.acts.getLast? with|some a=>a.booked|none=>f.claim.booked
def iy (s:StA) (a:Act):Bool:=(decide (a.kind=2)&&decide (a.amt>IntKind.i64.wrap (1000000000000000-s.shown)))||(decide (a.kind=3)&&decide (a.amt>IntKind.i64.wrap (1000000000000000-s.back)))
def dL (f:File) (a:Act):Int:=
 if a.rightB=false then 1 else if 2000≤f.acts.length then 2 else if a.booked<nG f then 4 else if(dw f.acts).opn=decide (a.kind=5) then 10 else if iy (dw f.acts) a=true then 5 else 0
def gU (c:Claim):List Act→List Act→Bool
 |_,[]=>true
 |p,a::r=>decide (dL ⟨c,p⟩ a=0)&&gU c (p++[a]) r
def File.made (f:File):Bool:=gU f.claim [] f.acts
def oP (k:Int) (p:List Act):Int:=(p.map fun a=>if a.kind=k then a.amt else 0).sum
theorem EP (k:Int) (p:List Act) (a:Act):oP k (p++[a])=oP k p+if a.kind=k then a.amt else 0:=by simp[oP]
structure Good (c:Claim) (p:List Act):Prop where
 right:∀a,a∈p→a.rightB=true
 srt:p.Pairwise fun a b=>a.booked≤b.booked
 first:∀a,a∈p→c.booked≤a.booked
 shown:0≤(dw p).shown∧(dw p).shown≤1000000000000000
 back:0≤(dw p).back∧(dw p).back≤1000000000000000
 gross:0≤(dw p).gross∧(dw p).gross≤1000000000000000
 len:p.length≤2000
 shownE:(dw p).shown=oP 2 p
 backE:(dw p).back=oP 3 p
theorem Act.right_iff {a:Act}:a.rightB=true↔1≤a.booked∧a.booked≤292194∧1≤a.kind∧a.kind≤5∧0≤a.amt∧a.amt≤(if a.kind=4∨a.kind=5 then 0 else 1000000000000000):=by
 simp only[Act.rightB,Bool.and_eq_true,EO]
 grind
theorem Vw {f:File} {a:Act} (h:dL f a=0):a.rightB=true∧f.acts.length<2000∧nG f≤a.booked∧(dw f.acts).opn= !decide (a.kind=5)∧iy (dw f.acts) a=false:=by
 unfold dL at h
 split at h;·cases h
 split at h;·cases h
 split at h;·cases h
 split at h;·cases h
 split at h;·cases h
 rename_i h1 h2 h3 h4 h5
 refine⟨by simpa using h1,by omega,by omega,?_,by simpa using h5⟩
 cases h6:(dw f.acts).opn<;>cases h7:decide (a.kind=5)<;>simp_all
theorem Vx {c:Claim} {p:List Act} (h1:p.Pairwise fun a b=>a.booked≤b.booked):∀a,a∈p→a.booked≤nG ⟨c,p⟩:=by
 intro a ha
 rcases List.eq_nil_or_concat p with rfl|⟨q,x,rfl⟩
 ·simp at ha
 ·rw[List.concat_eq_append] at *
  have hl:nG ⟨c,q++[x]⟩=x.booked:=by simp[nG]
  rw[hl]
  rw[List.pairwise_append] at h1
  rcases List.mem_append.1 ha with ha|ha
  ·exact h1.2.2 a ha x ai
  ·simp at ha;subst ha;exact Int.le_refl _
theorem Vy {s:StA} {a:Act} (hr:a.rightB=true) (h1:0≤s.shown∧s.shown≤1000000000000000) (h2:0≤s.back∧s.back≤1000000000000000) (h3:0≤s.gross∧s.gross≤1000000000000000) (ho:iy s a=false):
 (eY s a).shown=s.shown+(if a.kind=2 then a.amt else 0)∧(eY s a).back=s.back+(if a.kind=3 then a.amt else 0)∧(0≤(eY s a).shown∧(eY s a).shown≤1000000000000000)∧(0≤(eY s a).back∧(eY s a).back≤1000000000000000)∧0≤(eY s a).gross∧(eY s a).gross≤1000000000000000:=by
 have h:=Act.right_iff.1 hr
 have w1:IntKind.i64.wrap (1000000000000000-s.shown)=1000000000000000-s.shown:=by rw[fq]<;>omega
 have w2:IntKind.i64.wrap (1000000000000000-s.back)=1000000000000000-s.back:=by rw[fq]<;>omega
 have hm:a.amt≤1000000000000000:=by
  have:=h.2.2.2.2.2
  split at this<;>omega
 have w3:IntKind.i64.wrap (s.shown+a.amt)=s.shown+a.amt:=by rw[fq]<;>omega
 have w4:IntKind.i64.wrap (s.back+a.amt)=s.back+a.amt:=by rw[fq]<;>omega
 unfold iy at ho
 rw[w1,w2,Bool.or_eq_false_iff,Bool.and_eq_false_iff,Bool.and_eq_false_iff] at ho
 simp only[decide_eq_false_iff_not] at ho
 unfold eY
 rw[w3,w4]
 by_cases k1:a.kind=1
 ·simp only[k1,if_true];simp;omega
 ·by_cases k2:a.kind=2
  ·simp only[k2];simp;omega
  ·by_cases k3:a.kind=3
   ·simp only[k3];simp;omega
   ·simp only[k1,k2,k3,if_false,Int.add_zero]
    split
    ·exact⟨rfl,rfl,h1,h2,h3⟩
    ·split
     ·exact⟨rfl,rfl,h1,h2,h3⟩
     ·exact⟨rfl,rfl,h1,h2,h3⟩
theorem Good.nil (c:Claim):Good c []:=⟨by simp,.nil,by simp,by simp[dw],by simp[dw],by simp[dw],by simp,by simp[dw,oP],by simp[dw,oP]⟩
theorem Good.snoc {c:Claim} {p:List Act} {a:Act} (h:Good c p) (ha:dL ⟨c,p⟩ a=0):Good c (p++[a]):=by
 obtain⟨h1,h2,h3,h4,h5⟩:=Vw ha
 have hs:=Vy h1 h.shown h.back h.gross h5
 refine⟨fun x hx=> ?_,?_,fun x hx=> ?_,by rw[uZ];exact hs.2.2.1,by rw[uZ];exact hs.2.2.2.1,by rw[uZ];exact hs.2.2.2.2,by simp at h2 ⊢;omega,by rw[uZ,EP,hs.1,h.shownE],by rw[uZ,EP,hs.2.1,h.backE]⟩
 ·rcases List.mem_append.1 hx with hx|hx
  ·exact h.right x hx
  ·simp at hx;subst hx;exact h1
 ·rw[List.pairwise_append]
  exact⟨h.srt,by simp,fun x hx y hy=>by simp at hy;subst hy;exact Int.le_trans (Vx h.srt x hx) h3⟩
 ·rcases List.mem_append.1 hx with hx|hx
  ·exact h.first x hx
  ·simp at hx;subst hx
   rcases List.eq_nil_or_concat p with rfl|⟨q,y,rfl⟩
   ·simpa[nG] using h3
   ·rw[List.concat_eq_append] at *
    have hl:nG ⟨c,q++[y]⟩=y.booked:=by simp[nG]
    rw[hl] at h3
    exact Int.le_trans (h.first y ai) h3
theorem La {c:Claim}:∀ {r p:List Act},Good c p→gU c p r=true→Good c (p++r)
 | [],p,h,_=>by simpa using h
 |a::r,p,h,hm=>by
  rw[gU,Bool.and_eq_true,decide_eq_true_eq] at hm
  have:=La (h.snoc hm.1) hm.2
  simpa using this
theorem u6 {f:File} (h:f.made=true):Good f.claim f.acts:=by
 have:=La (Good.nil f.claim) h
 simpa using this
theorem Bo {c:Claim}:∀ {r s p:List Act},gU c p (r++s)=(gU c p r&&gU c (p++r) s)
 | [],s,p=>by simp[gU]
 |a::r,s,p=>by simp[gU,Bo (r:=r) (s:=s),Bool.and_assoc]
theorem Vz {f:File} {a:Act} (h:f.made=true):(⟨f.claim,f.acts++[a]⟩:File).made=decide (dL f a=0):=by
 unfold File.made at h ⊢
 simp only
 rw[Bo,h]
 simp[gU]
def iW (p:Int) (f:File):Bool:=f.claim.formedB&&decide (f.claim.peril=p)&&f.made
def bL (c:Cover) (l:List File):Bool:=c.rightB&&l.all (iW c.peril)
def dm (l:List File):Nat:=(l.map fun f=>f.acts.length).sum
theorem Lb {l:List File} {i:Nat} {f:File} (h:l[i]? =some f):dm (l.take (i+1))=dm (l.take i)+f.acts.length:=by
 rw[List.take_add_one,h,dm,List.map_append,List.sum_append]
 simp[dm]
theorem Lc (l:List File) (i:Nat):dm (l.take i)≤dm l:=by
 have:dm l=dm (l.take i)+dm (l.drop i):=by
  conv=>lhs;rw[←List.take_append_drop i l]
  unfold dm
  rw[List.map_append,List.sum_append]
 omega
def ek (k:Nat):List File→List Stp
 | []=>[]
 |f::l=>f.acts.map (fun a=>⟨k,a⟩)++ek (k+1) l
theorem ym (k:Nat) (l:List File):(ek k l).length=dm l:=by
 induction l generalizing k with
 |nil=>rfl
 |cons f l ih=>simp[ek,ih,dm]
theorem VA (k:Nat) (a b:List File):ek k (a++b)=ek k a++ek (k+a.length) b:=by
 induction a generalizing k with
 |nil=>simp[ek]
 |cons f a ih=>simp[ek,ih,Nat.add_assoc,Nat.add_comm 1]
theorem Ld {k:Nat} {l:List File} {s:Stp} (h:s∈ek k l):∃i f,l[i]? =some f∧s.file=(k+i:Nat)∧s.act∈f.acts:=by
 induction l generalizing k with
 |nil=>simp[ek] at h
 |cons f l ih=>
  rw[ek,List.mem_append,List.mem_map] at h
  rcases h with⟨a,ha,rfl⟩|h
  ·exact⟨0,f,rfl,by simp,ha⟩
  ·obtain⟨i,g,h1,h2,h3⟩:=ih h
   exact⟨i+1,g,by simpa using h1,by rw[h2];congr 1;omega,h3⟩
def bi (l:List File):List Stp:=aG aK (ek 0 l)
structure PS where
 shown:List Int
 paid:List Int
 all:Int
 out:List (Int×Int×Int)
def lK (c:Cover) (s:PS) (x:Stp):PS:=
 if x.act.kind=2 then
  let k:=x.file.toNat
  let sh:=s.shown.getD k 0+x.act.amt
  let pk:=s.paid.getD k 0
  let w:=pays c sh (s.all-pk)
  if w-pk≤0 then⟨s.shown.set k sh,s.paid,s.all,s.out⟩ else⟨s.shown.set k sh,s.paid.set k w,s.all+(w-pk),s.out++[(x.file,x.act.booked,w-pk)]⟩
 else s
def ps0 (n:Nat):PS:=⟨List.replicate n 0,List.replicate n 0,0,[]⟩
def dX (c:Cover) (n:Nat) (L:List Stp):PS:=L.foldl (lK c) (ps0 n)
theorem VB (c:Cover) (n:Nat) (L:List Stp) (x:Stp):dX c n (L++[x])=lK c (dX c n L) x:=by simp[dX]
structure Acct where
 h:History
 paid:Int
@[go_sem] def Acct.flat (a:Acct):List AV:=[int a.h.id,int a.h.booked,int a.h.terms.from_,int a.h.terms.to_,int a.h.terms.kind,int a.h.terms.value,int a.h.terms.age,int a.h.terms.zone,dz a.h.terms.covers,jg a.h.changes,int a.paid]
abbrev VC (l:List Acct):AV:= .sl false 11 (l.map Acct.flat)
abbrev iX (l:List Treaty):AV:= .sl false 9 (l.map Treaty.flat)
structure Stt where
 tariff:List Version
 acc:List Acct
 files:List File
 tre:List Treaty
 closed:Int
@[go_sem] def Stt.flat (s:Stt):List AV:=[dh s.tariff,VC s.acc,dW s.files,iX s.tre,int s.closed]
theorem EQ (a:Acct):a.flat.all AV.isData=true:=by simp[Acct.flat]
theorem oQ (a:File):a.flat.all AV.isData=true:=by simp[File.flat]
theorem ER (a:Treaty):a.flat.all AV.isData=true:=by simp[Treaty.flat]
@[go_sem] theorem rowAc_ren (r:Nat→Nat) (l:List Acct):(aa Acct.flat l).map (AV.ren r)=aa Acct.flat l:=jh (fun x r=>by simp[Acct.flat]) r l
@[go_sem] theorem rowAc_nms (p:Nat→Bool) (l:List Acct):(aa Acct.flat l).all (AV.names p)=true:=ji (fun x p=>by simp[Acct.flat]) p l
@[go_sem] theorem rowFi_ren (r:Nat→Nat) (l:List File):(aa File.flat l).map (AV.ren r)=aa File.flat l:=jh (fun x r=>by simp[File.flat]) r l
@[go_sem] theorem rowFi_nms (p:Nat→Bool) (l:List File):(aa File.flat l).all (AV.names p)=true:=ji (fun x p=>by simp[File.flat]) p l
@[go_sem] theorem rowTr_ren (r:Nat→Nat) (l:List Treaty):(aa Treaty.flat l).map (AV.ren r)=aa Treaty.flat l:=jh (fun x r=>by simp[Treaty.flat]) r l
@[go_sem] theorem rowTr_nms (p:Nat→Bool) (l:List Treaty):(aa Treaty.flat l).all (AV.names p)=true:=ji (fun x p=>by simp[Treaty.flat]) p l
def aZ {α:Type} (l:List α) (i:Nat) (x:α):List α:=l.take i++x::l.drop i
theorem oU {α:Type} {l:List α} {i:Nat} {x:α} (h:i≤l.length):(aZ l i x).length=l.length+1:=by simp[aZ];omega
theorem ES {α:Type} (l:List α) (x:α):aZ l l.length x=l++[x]:=by simp[aZ]
theorem ET {α:Type} {F:α→List AV} {k:Nat} (hk:∀x,(F x).length=k) (l:List α) (i:Nat):aa F (l.take i)=(aa F l).take (i*k)∧aa F (l.drop i)=(aa F l).drop (i*k):=by
 by_cases hi:i≤l.length
 ·have h1:aa F (l.take i)++aa F (l.drop i)=aa F l:=by rw[aa,aa,←List.flatten_append,←List.map_append,List.take_append_drop];rfl
  have h2:(aa F (l.take i)).length=i*k:=by rw[dU hk,List.length_take,Nat.min_eq_left hi]
  rw[←h1,←h2]
  exact⟨(List.take_left).symm,(List.drop_left).symm⟩
 ·have h2:(aa F l).length≤i*k:=by rw[dU hk];exact Nat.mul_le_mul_right _ byOmega
  rw[List.take_of_length_le byOmega,List.drop_of_length_le byOmega,List.take_of_length_le h2,List.drop_of_length_le h2]
  exact⟨rfl,rfl⟩
theorem EU {α:Type} {F:α→List AV} {k:Nat} (hk:∀x,(F x).length=k) (l:List α) (i:Nat) (x:α):aa F (aZ l i x)=(aa F l).take (i*k)++F x++(aa F l).drop (i*k):=by
 rw[aZ,←(ET hk l i).1,←(ET hk l i).2]
 simp[aa]
def dY {α:Type} (p:α→Bool):Int→List α→Int
 |_,[]=> -1
 |i,x::l=>if p x then i else dY p (i+1) l
theorem kM {α:Type} (p:α→Bool):∀(l:List α) (i:Int),dY p i l=match l.findIdx? p with|some k=>i+k|none=> -1
 | [],i=>rfl
 |x::l,i=>by
  rw[dY,List.findIdx?_cons]
  by_cases h:p x=true
  ·rw[if_pos h,if_pos h];simp
  ·rw[if_neg h,if_neg h,kM p l (i+1)]
   cases l.findIdx? p with
   |none=>rfl
   |some k=>show i+1+(k:Int)=i+((k+1:Nat):Int);omega
end Go.Proofs.YtlikpcpllahalaaGreat.V
