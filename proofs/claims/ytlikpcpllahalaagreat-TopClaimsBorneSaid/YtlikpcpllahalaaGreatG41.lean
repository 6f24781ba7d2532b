/- Parts of the proof. -/
import Derived.Test.YtlikpcpllahalaaGreatG20
import Derived.Test.YtlikpcpllahalaaGreatG14
import Derived.Test.YtlikpcpllahalaaGreatG30
import Derived.Test.YtlikpcpllahalaaGreatG39
set_option maxHeartbeats 16000000
set_option linter.unusedSimpArgs false
set_option linter.unusedVariables false
namespace Go.Proofs.YtlikpcpllahalaaGreat.V
open Go.RowKit
set_option maxRecDepth 100000
section
attribute [local go_sem] Option.toList_some Option.toList_none Int.reduceEq Int.reduceNe
theorem Mm (n:Int) (h1:1≤n) (h2:n≤365):Fun Tryz.prog 75 [int n] (.tup [int 1601,int 0]):=by
 have k1:Fun Tryz.prog 124 [int n] (bool true):=by
  have g1:(1≤n)=True:=eq_true h1
  have g2:(n≤292194)=True:=eT
  refine af Tryz.func124 fun cx hN hR hF hL=> ?_
  exact run (I g1 (I g2 (I (decide_eq_true (of_eq_true g1)) (I (decide_eq_true (of_eq_true g2)) ((@ge_iff_le Int _)))))) tt
 have k2:Fun Tryz.prog 125 [int 1601] (int 0):=by
  refine af Tryz.func125 fun cx hN hR hF hL=> ?_
  refine' run tt (V.l1 ?_)
  rfl
 have w1:IntKind.i64.wrap (n-1)=n-1:=wE
 have w2:(n-1).tdiv 365=0:=by rw[Int.tdiv_eq_ediv_of_nonneg byOmega];omega
 have g3:(n≤0)=False:=eF
 have w3:IntKind.i64.wrap 0=0:=rfl
 have w4:IntKind.i64.wrap (1601+0)=1601:=rfl
 refine af Tryz.func75 fun cx hN hR hF hL=> ?_
 refine' aj (I w1 (I w2 (I w3 w4))) k1 (V.l3 fun hq=> ?_)
 refine bU 3 ?_
 exact aj (I g3 (I (decide_eq_false (of_eq_false g3)) ((@ge_iff_le Int _)))) k2 tt
def tq:AV:= .agg [int 1601,.sl false 1 [[ints [600]]]]
attribute [local go_sem] Int.reduceLE Int.reduceLT Int.reduceToNat in
theorem YX:Fun Tryz.prog 74 [.agg [int 8,int 11,int 600]] (int 0):=by
 have k:Fun Tryz.prog 123 [int 600] (bool true):=by
  refine af Tryz.func123 fun cx hN hR hF hL=> ?_
  exact run ((@ge_iff_le Int _)) tt
 refine af Tryz.func74 fun cx hN hR hF hL=> ?_
 exact aj ((@gt_iff_lt Int _)) k tt
attribute [local go_sem] Int.reduceLE Int.reduceLT Int.reduceToNat in
theorem YY:Fun Tryz.prog 34 [.sl false 3 [[int 8,int 11,int 600]]] (.tup [tq,int 0]):=by
 unfold tq
 have k1:=YX
 have k2:=Mm 8 byOmega byOmega
 have k3:=Mm 11 byOmega byOmega
 have a1:(max 0 1601:Int)=1601:=rfl
 have a2:(min 2401 1601:Int)=1601:=rfl
 have a3:IntKind.i64.wrap (0+1)=1:=rfl
 have a4:((1:Nat):Int)=1:=rfl
 have a5:IntKind.i64.wrap (1-0)=1:=rfl
 have a6:IntKind.i64.wrap (1601-1601)=0:=rfl
 have a7:IntKind.i64.wrap (0+600)=600:=rfl
 refine af Tryz.func34 fun cx hN hR hF hL=> ?_
 refine' aj (I a1 (I a2 (I a3 (I a4 (I a6 ((@gt_iff_lt Int _))))))) (I k1 (I k2 k3)) (V.l3 fun hq=> ?_)
 refine bU 3 ?_
 refine' aj (I a1 (I a2 (I a3 (I a4 (I a6 ((@gt_iff_lt Int _))))))) (I k1 (I k2 k3)) (lv (fun hq=>fun hq=>fun hq=>fun hq=>lf ?_) tt)
 refine bU 3 ?_
 (try focus ((try(revert K;refine bK ?_));refine' aj (I a1 (I a2 (I a3 (I a4 (I a5 (I a6 ((@gt_iff_lt Int _)))))))) (I k1 (I k2 k3)) ?_;(repeat' first|exact tt|apply lv|(apply oK;intro K hK)|intro hq);all_goals apply lf))
 refine bU 3 ?_
 refine' aj (I a1 (I a2 (I a3 (I a4 (I a5 (I a6 ((@gt_iff_lt Int _)))))))) (I k1 (I k2 k3)) (V.l3 fun hq=> ?_)
 refine bU 3 ?_
 refine' aj (I a1 (I a2 (I a3 (I a4 (I a5 (I a6 (I a7 ((@gt_iff_lt Int _))))))))) (I k1 (I k2 k3)) (lv (fun hq=>fun hq=>fun hq=>fun hq=>lf ?_) tt)
 ·simp[go_sem,aH]
 all_goals simp[maxLen]
attribute [local go_sem] Int.reduceLE Int.reduceLT Int.reduceToNat in
theorem YZ:Fun Tryz.prog 76 [tq] (bool true):=by
 unfold tq
 have a3:IntKind.i64.wrap (0+1)=1:=rfl
 have a4:((1:Nat):Int)=1:=rfl
 have a5:IntKind.i64.wrap (1-0)=1:=rfl
 have a6:IntKind.i64.wrap (2400-1)=2399:=rfl
 have a7:IntKind.i64.wrap (2399+1)=2400:=rfl
 refine af Tryz.func76 fun cx hN hR hF hL=> ?_
 refine' run (I a3 (I a4 (I a5 (I a6 (I a7 ((@gt_iff_lt Int _))))))) (V.l3 fun hq=> ?_)
 refine bU 3 ?_
 refine' run (I a3 (I a4 (I a5 (I a6 (I a7 ((@gt_iff_lt Int _))))))) (lv (fun hq=>fun hq=>lf ?_) tt)
 refine bU 3 ?_
 exact run (I a3 (I a4 (I a5 (I a6 (I a7 ((@gt_iff_lt Int _))))))) tt
attribute [local go_sem] Int.reduceLE Int.reduceLT Int.reduceToNat in
theorem Y0:Fun Tryz.prog 36 [tq] (ints [600]):=by
 have k:=YZ
 unfold tq at *
 have a3:IntKind.i64.wrap (0+1)=1:=rfl
 have a4:((1:Nat):Int)=1:=rfl
 have a5:IntKind.i64.wrap (1-1)=0:=rfl
 refine af Tryz.func36 fun cx hN hR hF hL=> ?_
 refine' aj (I a3 (I a4 (I a5 ((@gt_iff_lt Int _))))) k (V.l3 fun hq=> ?_)
 refine bU 3 ?_
 refine' aj (I a3 (I a4 (I a5 ((@gt_iff_lt Int _))))) k (lv (fun hq=>fun hq=>lf ?_) (lv (fun hq=>o4 fun K hK=> ?_) tt))
 ·simp[go_sem,aH]
 all_goals simp[maxLen]
attribute [local go_sem] Int.reduceLE Int.reduceLT Int.reduceToNat in
theorem Mo (n:Int):Fun Tryz.prog 35 [ints [n],ints [n]] (bool true):=by
 have a3:IntKind.i64.wrap (0+1)=1:=rfl
 have a4:((1:Nat):Int)=1:=rfl
 refine af Tryz.func35 fun cx hN hR hF hL=> ?_
 refine' run (I a3 a4) (V.l3 fun hq=> ?_)
 refine bU 3 ?_
 exact run (I a3 a4) tt
end
section
attribute [local go_sem] Option.toList_some Option.toList_none
theorem Y1 (c:Cover) (f:File):aC Tryz.prog 152 [(0,⟨44,c.flat⟩)] [.agg f.flat,.ptr 0 0] (bool (!iW c.peril f)) []:=by
 refine aW 1 Tryz.func152 (fun cx hN hR hF hL=> ?_)
 refine' aj tt (I (Yc f.claim) (Yw f)) (V.l1 ?_)
 have h:(!f.claim.formedB|| !decide (f.claim.peril=c.peril)|| !f.made)= !iW c.peril f:=by simp[iW]
 exact .inl h
def qI (p:Int):Int→List File→Int
 |_,[]=> -1
 |i,f::l=>if iW p f then qI p (i+1) l else i
theorem Mq (p:Int):∀(l:List File) (i:Int),0≤i→decide (0≤qI p i l)= !l.all (iW p)
 | [],i,_=>rfl
 |f::l,i,hi=>by
  rw[qI,List.all_cons]
  by_cases h:iW p f=true
  ·rw[if_pos h,Mq p l (i+1) byOmega,h];rfl
  ·rw[if_neg h]
   simp only[Bool.not_eq_true] at h
   rw[h]
   simp[hi]
theorem Y2 (c:Cover) (l:List File):aC Tryz.prog 195 [(0,⟨44,c.flat⟩)] [dW l,.fn (.func 152) [] [.ptr 0 0]] (int (qI c.peril 0 l)) []:=by
 refine aW 1 Tryz.func195 (fun cx hN hR hF hL=> ?_)
 have hll:l.length≤9223372036854775807:=by
  have:=hL.1
  simp[maxLen] at this
  omega
 have hb:∀b g,cx.F b=some g→b<3000:=fun b g h=>by
  have:=hF b g h
  simp[inl] at this
  omega
 refine' run tt (V.l1 ?_)
 refine aX (σ:={i:Nat // i≤l.length∧qI c.peril 0 l=qI c.peril i (l.drop i)}) (fun s=>⟨[(8,int s.1),(7,int l.length),(4,int 0),(1,.fn (.func 152) [] [.ptr 0 0]),(0,dW l)],[(0,some ⟨44,c.flat⟩)],3000⟩) (fun s=>l.length-s.1) id ⟨0,by omega,rfl⟩ ?_ ?_
 ·simp only[go_sem,↓reduceIte,hF]
  exact⟨rfl,hb⟩
 ·rintro⟨i,h1,h2⟩
  by_cases hi:i<l.length
  ·have e0:l[i]? =some l[i]:=List.getElem?_eq_getElem hi
   have e1:(l.map File.flat)[i]? =some l[i].flat:=by rw[List.getElem?_map,e0];rfl
   have e2:=wS i
   have hk1:i<(l.map File.flat).length:=by simpa using hi
   refine' run (I e1 (I e2 hk1)) (lv (fun hq=>o4 fun K hK=> ?_) tt)
   rw[List.drop_eq_getElem_cons hi,qI] at h2
   generalize l[i]=f at *
   (refine aB [0] (Y1 c f) ?_)
   (revert K;refine bK ?_;refine' run (I e1 e2) (lv (fun hq=>lf ?_) (V.l3 fun hq=> ?_)))
   ·rw[if_neg (by rw[hq];decide)] at h2
    exact .inl h2.symm
   ·rw[if_pos hq] at h2
    refine⟨⟨i+1,by omega,by rw[h2];rfl⟩,id,?_,mS⟩
    simp only[go_sem,↓reduceIte,hF]
    exact hb
  ·refine' run tt (V.l3 fun hq=> ?_)
   rw[List.drop_eq_nil_of_le byOmega,qI] at h2
   rw[h2]
   exact .inl rfl
theorem Y3 (c:Cover) (l:List File):aC Tryz.prog 155 [(0,⟨44,c.flat⟩)] [dW l,.fn (.func 152) [] [.ptr 0 0]] (bool (!l.all (iW c.peril))) []:=by
 have hd:=Mq c.peril l 0 byOmega
 refine aW 1 Tryz.func155 (fun cx hN hR hF hL=> ?_)
 refine' run tt (V.l4 fun K hK=> ?_)
 (refine aB [0] (Y2 c l) ?_)
 (revert K;refine bK ?_;refine' run tt (V.l1 ?_))
 exact .inl hd
theorem Mr (c:Cover) (l:List File) (hc:c.ok):Fun Tryz.prog 113 [.agg c.flat,dW l] (bool (bL c l)):=by
 by_cases hr:c.rightB=true
 ·refine af Tryz.func113 fun cx hN hR hF hL=> ?_
  refine' aj hr (BH c hc) (V.l4 fun K hK=> ?_)
  (refine aB [0] (Y3 c l) ?_)
  (revert K;refine bK ?_;refine' run hr (V.l1 ?_))
  simp[bL,hr]
 ·simp only[Bool.not_eq_true] at hr
  refine af Tryz.func113 fun cx hN hR hF hL=> ?_
  refine' aj hr (BH c hc) (V.l1 ?_)
  simp[bL,hr]
theorem Ms (l:List File):∀(m:Nat),(∀f,f∈l→f.acts.length≤m)→dm l≤l.length*m:=by
 intro m
 induction l with
 |nil=>intro _;simp[dm]
 |cons f l ih=>
  intro h
  have h1:=h f ai
  have h2:=ih fun g hg=>h g (by simp[hg])
  have:dm (f::l)=f.acts.length+dm l:=by simp[dm]
  rw[this,List.length_cons,Nat.succ_mul]
  omega
theorem Mt {c:Cover} {l:List File} (h:bL c l=true):∀f,f∈l→f.acts.length≤2000:=by
 intro f hf
 rw[bL,Bool.and_eq_true,List.all_eq_true] at h
 have:=h.2 f hf
 rw[iW,Bool.and_eq_true] at this
 exact(u6 this.2).len
def bO (c:Cover) (l:List File):Int:=if bL c l=false then 1 else if 2000<l.length∨2000<dm l then 2 else 0
theorem Fj (c:Cover) (l:List File) (hc:c.ok) (hl:l.length≤100000):Fun Tryz.prog 61 [.agg c.flat,dW l] (int (bO c l)):=by
 by_cases hr:bL c l=true
 ·have hm:=Ms l 2000 (Mt hr)
  have hm2:l.length*2000≤100000*2000:=Nat.mul_le_mul_right _ hl
  refine af Tryz.func61 fun cx hN hR hF hL=> ?_
  refine' aj hr (Mr c l hc) (V.l3 fun hq=> ?_)
  refine aX (σ:={i:Nat // i≤l.length}) (fun s=>⟨[(14,int s.1),(5,int (dm (l.take s.1))),(12,dW l),(13,int l.length),(1,dW l)],[],4000⟩) (fun s=>l.length-s.1) id ⟨0,by omega⟩ ?_ ?_
  ·simp only[go_sem,↓reduceIte,hF]
   exact⟨rfl,rfl⟩
  ·rintro⟨i,h1⟩
   by_cases hi:i<l.length
   ·have e0:l[i]? =some l[i]:=List.getElem?_eq_getElem hi
    have e1:(l.map File.flat)[i]? =some l[i].flat:=by rw[List.getElem?_map,e0];rfl
    have e2:=wS i
    have hk1:i<(l.map File.flat).length:=by simpa using hi
    have hs:=Lb e0
    have ht:=Lc l (i+1)
    generalize l[i]=f at *
    have e3:IntKind.i64.wrap ((dm (l.take i):Int)+(f.acts.length:Int))=((dm (l.take (i+1)):Nat):Int):=wE
    refine' run (I e1 (I e2 (I e3 hk1))) (V.l3 fun hq=> ?_)
    refine⟨⟨i+1,by omega⟩,id,?_,mS⟩
    simp only[go_sem,↓reduceIte,hF]
   ·obtain rfl:i=l.length:=byOmega
    simp only[List.take_length]
    refine' run tt (lv (fun hq=>fun hq=>lf ?_) (lv (fun hq=>fun hq=>lf ?_) tt))
    ·rw[bO,if_neg (by rw[hr];decide),if_pos byOmega]
    ·rw[bO,if_neg (by rw[hr];decide),if_neg byOmega]
 ·simp only[Bool.not_eq_true] at hr
  refine af Tryz.func61 fun cx hN hR hF hL=> ?_
  refine' aj hr (Mr c l hc) (V.l3 fun hq=> ?_)
  simp[bO,hr]
end
section
section
variable {α:Type} {lt:α→α→Bool}
theorem Y4 (h:SW lt) {S:List α} (hS:Srt lt S):aG lt S=S:=by
 have key:∀n (S:List α),S.length=n→Srt lt S→ig lt S=S.reverse:=by
  intro n
  induction n with
  |zero=>intro S hn _;obtain rfl:=List.eq_nil_of_length_eq_zero hn;rfl
  |succ n ih=>
   intro S hn hS
   rcases List.eq_nil_or_concat S with rfl|⟨S,x,rfl⟩
   ·rfl
   ·rw[List.concat_eq_append] at *
    have hS2:=List.pairwise_append.1 hS
    rw[qh,ih S (by simp at hn;exact hn) hS2.1,Ki _ fun y hy=>hS2.2.2 y (by simpa using hy) x ai]
    simp
 unfold aG
 rw[key _ S rfl hS,List.reverse_reverse]
end
theorem Y5:∀ {A B:List Stp},Srt aK A→Srt aK B→(∀k:Int,A.filter (fun s=>decide (s.file=k))=B.filter fun s=>decide (s.file=k))→A=B
 | [],[],_,_,_=>rfl
 | [],y::B,_,_,h=>by have:=h y.file;simp at this
 |x::A,[],_,_,h=>by have:=h x.file;simp at this
 |x::A,y::B,sA,sB,h=>by
  have sA2:=List.pairwise_cons.1 sA
  have sB2:=List.pairwise_cons.1 sB
  by_cases he:x.file=y.file
  ·have h1:=h x.file
   rw[List.filter_cons_of_pos ai,List.filter_cons_of_pos (by simp[he])] at h1
   injection h1 with h1 h2
   subst h1
   congr 1
   refine Y5 sA2.2 sB2.2 fun k=> ?_
   have h3:=h k
   by_cases hk:x.file=k
   ·subst hk;exact h2
   ·rwa [List.filter_cons_of_neg (by simpa using hk),List.filter_cons_of_neg (by simpa using hk)] at h3
  ·exfalso
   have hx:x∈B:=by
    have h1:=h x.file
    rw[List.filter_cons_of_pos ai] at h1
    have:x∈(y::B).filter fun s=>decide (s.file=x.file):=by rw[←h1];simp
    have:=(List.mem_filter.1 this).1
    rcases List.mem_cons.1 this with rfl|h
    ·exact absurd rfl he
    ·exact h
   have hy:y∈A:=by
    have h1:=h y.file
    rw[List.filter_cons_of_pos (l:=B) ai] at h1
    have:y∈(x::A).filter fun s=>decide (s.file=y.file):=by rw[h1];simp
    have:=(List.mem_filter.1 this).1
    rcases List.mem_cons.1 this with rfl|h
    ·exact absurd rfl he
    ·exact h
   have l1:=sA2.1 y hy
   have l2:=sB2.1 x hx
   simp only[aK,Bool.or_eq_false_iff,Bool.and_eq_false_iff,decide_eq_false_iff_not] at l1 l2
   omega
def vH (l:List File) (k:Nat):List Stp:=match l[k]? with|some f=>f.acts.map fun a=>⟨k,a⟩|none=>[]
theorem Y6 (l:List File) (k:Nat):∀b,(ek b l).filter (fun s=>decide (s.file=((b+k:Nat):Int)))=match l[k]? with|some f=>f.acts.map fun a=>⟨((b+k:Nat):Int),a⟩|none=>[]:=by
 induction l generalizing k with
 |nil=>intro b;simp[ek]
 |cons f l ih=>
  intro b
  rw[ek,List.filter_append]
  rcases k with _|k
  ·have h1:(f.acts.map fun a=>(⟨b,a⟩:Stp)).filter (fun s=>decide (s.file=((b+0:Nat):Int)))=f.acts.map fun a=>⟨b,a⟩:=by
    rw[List.filter_eq_self]
    intro s hs
    obtain⟨a,-,rfl⟩:=List.mem_map.1 hs
    simp
   have h2:(ek (b+1) l).filter (fun s=>decide (s.file=((b+0:Nat):Int)))=[]:=by
    rw[List.filter_eq_nil_iff]
    intro s hs
    obtain⟨i,g,-,h,-⟩:=Ld hs
    simp[h]
    omega
   rw[h1,h2]
   simp
  ·have h1:(f.acts.map fun a=>(⟨b,a⟩:Stp)).filter (fun s=>decide (s.file=((b+(k+1):Nat):Int)))=[]:=by
    rw[List.filter_eq_nil_iff]
    intro s hs
    obtain⟨a,-,rfl⟩:=List.mem_map.1 hs
    simp
    omega
   have:=ih k (b+1)
   rw[h1,List.nil_append,show b+(k+1)=b+1+k by omega,this]
   simp
theorem Y7 (l:List File) (k:Nat):(ek 0 l).filter (fun s=>decide (s.file=(k:Int)))=vH l k:=by
 have:=Y6 l k 0
 simpa[vH] using this
theorem Y8 {l:List File} (hs:∀f,f∈l→f.acts.Pairwise fun a b=>a.booked≤b.booked) (k:Nat):Srt aK (vH l k):=by
 unfold vH Srt
 cases h:l[k]? with
 |none=>exact .nil
 |some f=>
  simp only
  rw[List.pairwise_map]
  refine(hs f (List.mem_of_getElem? h)).imp fun {a b} hab=> ?_
  simp only[aK,Bool.or_eq_false_iff,Bool.and_eq_false_iff,decide_eq_false_iff_not]
  omega
theorem Y9 {l:List File} (hs:∀f,f∈l→f.acts.Pairwise fun a b=>a.booked≤b.booked) (k:Nat):(bi l).filter (fun s=>decide (s.file=(k:Int)))=vH l k:=by
 unfold bi
 rw[Kk jo,Y7,Y4 jo (Y8 hs k)]
theorem Za {l:List File} {s:Stp}:s∈bi l↔s∈ek 0 l:=fO
theorem Fp (l:List File):(bi l).length=dm l:=by rw[bi,bZ,ym]
structure PB (c:Cover) (n m:Nat) (s:PS):Prop where
 l1:s.shown.length=n
 l2:s.paid.length=n
 sh:∀x,x∈s.shown→0≤x∧x≤m*1000000000000000
 pd:∀x,x∈s.paid→0≤x∧x≤1000000000000000
 al:0≤s.all∧s.all≤c.agg
 ou:s.out.length≤m
theorem Fq {l:List Int} {P:Int→Prop} (h0:P 0) (h:∀x,x∈l→P x) (k:Nat):P (l.getD k 0):=by
 rw[List.getD_eq_getElem?_getD]
 rcases hq:l[k]? with _|x
 ·simpa using h0
 ·simpa using h x (List.mem_of_getElem? hq)
theorem PB.get1 {c:Cover} {n m:Nat} {s:PS} (h:PB c n m s) (k:Nat):0≤s.shown.getD k 0∧s.shown.getD k 0≤m*1000000000000000:=Fq (P:=fun x=>0≤x∧x≤m*1000000000000000) byOmega h.sh k
theorem PB.get2 {c:Cover} {n m:Nat} {s:PS} (h:PB c n m s) (k:Nat):0≤s.paid.getD k 0∧s.paid.getD k 0≤1000000000000000:=Fq (P:=fun x=>0≤x∧x≤1000000000000000) byOmega h.pd k
theorem PB.zero {c:Cover} (hr:c.rightB=true) (n:Nat):PB c n 0 (ps0 n):=by
 have hc:=kL.1 hr
 refine⟨by simp[ps0],by simp[ps0],fun x hx=> ?_,fun x hx=> ?_,⟨Int.le_refl _,?_⟩,by simp[ps0]⟩
 ·have:=List.eq_of_mem_replicate hx;omega
 ·have:=List.eq_of_mem_replicate hx;omega
 ·show 0≤c.agg
  omega
theorem PB.step {c:Cover} {n m:Nat} {s:PS} (hr:c.rightB=true) (h:PB c n m s) (x:Stp) (hx:0≤x.act.amt∧x.act.amt≤1000000000000000):PB c n (m+1) (lK c s x):=by
 have hc:=kL.1 hr
 have g1:=h.get1 x.file.toNat
 have g2:=h.get2 x.file.toNat
 have ha:=h.al
 have hb:=yl (c:=c) hr (s.shown.getD x.file.toNat 0+x.act.amt) (used:=s.all-s.paid.getD x.file.toNat 0) byOmega
 have hw:=oO (c:=c) hr (s.shown.getD x.file.toNat 0+x.act.amt)
 have ho:=h.ou
 have hsh:∀y,y∈s.shown.set x.file.toNat (s.shown.getD x.file.toNat 0+x.act.amt)→0≤y∧y≤((m+1:Nat):Int)*1000000000000000:=by
  intro y hy
  rcases List.mem_or_eq_of_mem_set hy with hy|rfl
  ·have:=h.sh y hy;omega
  ·omega
 unfold lK
 simp only
 split
 ·split
  ·exact⟨by simp[h.l1],h.l2,hsh,h.pd,h.al,by simp only;omega⟩
  ·refine⟨by simp[h.l1],by simp[h.l2],hsh,fun y hy=> ?_,by simp only;omega,by simp;omega⟩
   rcases List.mem_or_eq_of_mem_set hy with hy|rfl
   ·exact h.pd y hy
   ·omega
 ·refine⟨h.l1,h.l2,fun y hy=> ?_,h.pd,h.al,by omega⟩
  have:=h.sh y hy
  omega
theorem yA {c:Cover} {n:Nat} {L:List Stp} {i:Nat} {x:Stp} (h:L[i]? =some x):dX c n (L.take (i+1))=lK c (dX c n (L.take i)) x:=by
 rw[List.take_add_one,h]
 exact VB c n _ x
theorem tu {c:Cover} (hr:c.rightB=true) (n:Nat) {L:List Stp} (hL:∀x,x∈L→0≤x.act.amt∧x.act.amt≤1000000000000000):∀i,i≤L.length→PB c n i (dX c n (L.take i)):=by
 intro i
 induction i with
 |zero=>intro _;exact PB.zero hr n
 |succ i ih=>
  intro hi
  have e0:L[i]? =some L[i]:=List.getElem?_eq_getElem hi
  rw[yA e0]
  exact(ih byOmega).step hr _ (hL _ (List.getElem_mem hi))
theorem nK {c:Cover} {l:List File} (h:bL c l=true) {x:Stp} (hx:x∈bi l):∃k:Nat,k<l.length∧x.file=(k:Int)∧x.act.rightB=true∧0≤x.act.amt∧x.act.amt≤1000000000000000:=by
 obtain⟨i,f,h1,h2,h3⟩:=Ld (Za.1 hx)
 have hi:=(List.getElem?_eq_some_iff.1 h1).1
 rw[bL,Bool.and_eq_true,List.all_eq_true] at h
 have hf:=h.2 f (List.mem_of_getElem? h1)
 rw[iW,Bool.and_eq_true] at hf
 have ha:=(u6 hf.2).right _ h3
 have ha2:=Act.right_iff.1 ha
 have hk:(if x.act.kind=4∨x.act.kind=5 then(0:Int) else 1000000000000000)≤1000000000000000:=by split<;>omega
 exact⟨i,hi,by simpa using h2,ha,by omega,by omega⟩
end
theorem Fs (l:List Stp) (a b n:Nat) (ha:a+n≤l.length) (hb:b+n≤l.length) (hl:l.length≤100000) (hne:l≠ []):aC Tryz.prog 228 [(0,⟨172,aa aO l⟩)] [.osl 0 4 0 l.length,int a,int b,int n,.v (.func (.func 63) #[] #[])] (.tup []) [(0,some ⟨172,aa aO (bI l a b n)⟩)]:=by
 have hne2:=K8 hne
 refine aW 1 Tryz.func228 (fun cx hN hR hF hL=> ?_) (by simp[go_sem,hne2,qy])
 have hF2:∀b g,cx.F b=some g→b<3000:=fun b g h=>by
  have:=hF b g h
  simp[inl] at this
  omega
 refine' run tt (V.l1 ?_)
 refine aX (σ:={i:Nat // i≤n}) (fun s=>⟨[(10,int s.1),(0,.osl 0 4 0 l.length),(1,int a),(2,int b),(3,int n)],[(0,some ⟨172,aa aO (bI l a b s.1)⟩)],3000⟩) (fun s=>n-s.1) id ⟨0,by omega⟩ ?_ ?_
 ·simp only[go_sem,↓reduceIte,hF]
  exact⟨rfl,rfl,hF2⟩
 ·rintro⟨i,h1⟩
  by_cases hi:i<n
  ·have e2:=wS i
   have w1:IntKind.i64.wrap ((a:Int)+i)=((a+i:Nat):Int):=wE
   have w2:IntKind.i64.wrap ((b:Int)+i)=((b+i:Nat):Int):=wE
   have hL1:a+i<(bI l a b i).length:=by rw[oG];omega
   have hL2:b+i<(bI l a b i).length:=by rw[oG];omega
   have hx:(bI l a b i)[a+i]? =some (bI l a b i)[a+i]:=List.getElem?_eq_getElem hL1
   have hy:(bI l a b i)[b+i]? =some (bI l a b i)[b+i]:=List.getElem?_eq_getElem hL2
   generalize (bI l a b i)[a+i]=x at hx
   generalize (bI l a b i)[b+i]=y at hy
   have hsw:bI l a b (i+1)=((bI l a b i).set (a+i) y).set (b+i) x:=by
    rw[bI,swp]
    simp only[hx,hy]
   have r1:=jm hx
   have r2:=jm hy
   have s1:=qz (bI l a b i) (a+i) y hL1
   have s2:=qz ((bI l a b i).set (a+i) y) (b+i) x (by rw[List.length_set];exact hL2)
   rw[←hsw] at s2
   have hn1:(aa aO (bI l a b i)).length=l.length*4:=by rw[jV,oG]
   have hn2:(aa aO ((bI l a b i).set (a+i) y)).length=l.length*4:=by rw[jV,List.length_set,oG]
   have hz:¬aa aO (bI l a b i)=[]:=by
    intro e
    have:=congrArg List.length e
    rw[hn1] at this
    simp at this
    omega
   have b1:a+i<l.length:=byOmega
   have b2:b+i<l.length:=byOmega
   have hl0:0<l.length:=byOmega
   refine' run (I e2 (I w1 (I w2 (I r1 (I r2 (I s1 (I s2 (I hn1 (I hn2 (I b1 b2)))))))))) (V.l3 fun hq=> ?_)
   ·refine⟨⟨i+1,by omega⟩,id,?_,mS⟩
    simp only[go_sem,↓reduceIte,hF]
    exact hF2
   all_goals(first|omega|exact hz)
  ·have:i=n:=byOmega
   subst this
   exact run tt tt
theorem Zb (X U V Y:List Stp) (m:Nat) (hm:m=X.length+U.length) (hU:0<U.length) (hV:0<V.length) (hl:(X++(U++(V++Y))).length≤100000):
 aC Tryz.prog 196 [(0,⟨172,aa aO (X++(U++(V++Y)))⟩)] [.osl 0 4 0 (X++(U++(V++Y))).length,int X.length,int m,int (m+V.length:Nat),.v (.func (.func 63) #[] #[])] (.tup []) [(0,some ⟨172,aa aO (X++(V++(U++Y)))⟩)]:=by
 have hne2:=gQ (l:=X++(U++(V++Y))) (by simp;omega)
 generalize hLL:X++(U++(V++Y))=l at *
 have hlen:X.length+U.length+V.length+Y.length=l.length:=by rw[←hLL];simp;omega
 have w1:IntKind.i64.wrap ((m:Int)-X.length)=(U.length:Nat):=wE
 have w2:IntKind.i64.wrap (((m+V.length:Nat):Int)-m)=(V.length:Nat):=wE
 refine aW 1 Tryz.func196 (fun cx hN hR hF hL=> ?_) (by simp[go_sem,hne2,qy])
 have hF2:∀b g,cx.F b=some g→b<3000:=fun b g h=>by
  have:=hF b g h
  simp[inl] at this
  omega
 refine' run (I w1 w2) (Go.Proofs.YtlikpcpllahalaaGreat.V.l1 ?_)
 refine iD mixed (σ:={p:List Stp×List Stp×List Stp×List Stp // p.1.length+p.2.1.length=m∧(p.1++(p.2.1++(p.2.2.1++p.2.2.2))).length=l.length∧0<p.2.1.length∧0<p.2.2.1.length∧p.1++(p.2.2.1++(p.2.1++p.2.2.2))=X++(V++(U++Y))})
  (fun s=>⟨[(10,int s.1.2.1.length),(11,int s.1.2.2.1.length),(0,.osl 0 4 0 l.length),(2,int m),(4,.v (.func (.func 63) #[] #[]))],[(0,some ⟨172,aa aO (s.1.1++(s.1.2.1++(s.1.2.2.1++s.1.2.2.2)))⟩)],3000⟩) (fun s=>s.1.2.1.length+s.1.2.2.1.length) id ⟨(X,U,V,Y),hm.symm,by rw[hLL],hU,hV,rfl⟩ (by rw[hN];kernel_rfl) ?_ ?_
 ·simp only[go_sem,↓reduceIte,hF]
  rw[hLL]
  exact⟨rfl,hF2⟩
 ·rintro⟨⟨X',U',V',Y'⟩,g1,g2,g3,g4,g5⟩
  simp only at g1 g2 g3 g4 g5
  simp only[List.length_append] at g2
  by_cases hi:U'.length=V'.length
  ·have w3:IntKind.i64.wrap ((m:Int)-U'.length)=(X'.length:Nat):=wE
   have c1:=Fs (X'++(U'++(V'++Y'))) X'.length m U'.length (by simp only[List.length_append];omega) (by simp only[List.length_append];omega) (by simp only[List.length_append];omega) (by intro e;have:=congrArg List.length e;simp only[List.length_append,List.length_nil] at this;omega)
   rw[rY _ _ _ _ X' U' [] V' Y' ai rfl hi.symm rfl (by simp only[List.length_nil];omega),List.nil_append,g5] at c1
   have ll:(X'++(U'++(V'++Y'))).length=l.length:=by simp;omega
   rw[ll] at c1
   refine' run (I w3 (eq_true hi)) (lv (fun hq=>o4 fun K hK=> ?_) tt)
   (refine aB [0] (c1) ?_)
   (revert K;refine bK ?_;exact run tt tt)
  ·by_cases hj:V'.length<U'.length
   ·obtain⟨U1,U2,he,hu1⟩:∃U1 U2,U'=U1++U2∧U1.length=V'.length:=⟨U'.take V'.length,U'.drop V'.length,by simp,by simp;omega⟩
    have hel:U'.length=U1.length+U2.length:=by rw[he,List.length_append]
    have w3:IntKind.i64.wrap ((m:Int)-U'.length)=(X'.length:Nat):=wE
    have w4:IntKind.i64.wrap ((U'.length:Int)-V'.length)=(U2.length:Nat):=wE
    have c1:=Fs (X'++(U'++(V'++Y'))) X'.length m V'.length (by simp only[List.length_append];omega) (by simp only[List.length_append];omega) (by simp only[List.length_append];omega) (by intro e;have:=congrArg List.length e;simp only[List.length_append,List.length_nil] at this;omega)
    rw[rY _ _ _ _ X' U1 U2 V' Y' (by rw[he];simp) hu1 rfl rfl byOmega] at c1
    have ll:(X'++(U'++(V'++Y'))).length=l.length:=by simp only[List.length_append];omega
    rw[ll] at c1
    refine' run (I w3 (I w4 (I (eq_false hi) (eq_true hj)))) (lv (fun hq=>fun hq=>o4 fun K hK=> ?_) tt)
    (refine aB [0] (c1) ?_)
    (revert K;refine bK ?_;refine' run w4 (Go.Proofs.YtlikpcpllahalaaGreat.V.l1 ?_))
    refine⟨⟨(X'++V',U2,U1,Y'),by simp only[List.length_append];omega,by simp only[List.length_append];omega,by simp only;omega,by simp only;omega,by rw[←g5,he];simp⟩,id,?_,by simp only;omega⟩
    simp only[go_sem,↓reduceIte,hF,hu1,List.append_assoc]
    exact hF2
   ·obtain⟨V1,V2,he,hv2⟩:∃V1 V2,V'=V1++V2∧V2.length=U'.length:=⟨V'.take (V'.length-U'.length),V'.drop (V'.length-U'.length),by simp,by simp;omega⟩
    have hel:V'.length=V1.length+V2.length:=by rw[he,List.length_append]
    have w3:IntKind.i64.wrap ((m:Int)-U'.length)=(X'.length:Nat):=wE
    have w4:IntKind.i64.wrap ((V'.length:Int)-U'.length)=(V1.length:Nat):=wE
    have w5:IntKind.i64.wrap ((m:Int)+V'.length)=((m+V'.length:Nat):Int):=wE
    have w6:IntKind.i64.wrap (((m+V'.length:Nat):Int)-U'.length)=((m+V1.length:Nat):Int):=wE
    have c1:=Fs (X'++(U'++(V'++Y'))) X'.length (m+V1.length) U'.length (by simp only[List.length_append];omega) (by simp only[List.length_append];omega) (by simp only[List.length_append];omega) (by intro e;have:=congrArg List.length e;simp only[List.length_append,List.length_nil] at this;omega)
    rw[rY _ _ _ _ X' U' V1 V2 Y' (by rw[he];simp) rfl hv2 rfl byOmega] at c1
    have ll:(X'++(U'++(V'++Y'))).length=l.length:=by simp only[List.length_append];omega
    rw[ll] at c1
    refine' run (I w3 (I w4 (I w5 (I w6 (I (eq_false hi) (eq_false hj)))))) (lv (fun hq=>fun hq=>o4 fun K hK=> ?_) tt)
    (refine aB [0] (c1) ?_)
    (revert K;refine bK ?_;refine' run w4 (Go.Proofs.YtlikpcpllahalaaGreat.V.l1 ?_))
    refine⟨⟨(X',V2,V1,U'++Y'),by simp only;omega,by simp only[List.length_append];omega,by simp only;omega,by simp only;omega,by rw[←g5,he];simp⟩,id,?_,by simp only;omega⟩
    simp only[go_sem,↓reduceIte,hF,hv2,List.append_assoc]
    exact hF2
theorem Mv (X S Y:List Stp) (hl:(X++(S++Y)).length≤100000) (h0:0<(X++(S++Y)).length) (hS:∀x,x∈S→True):
 aC Tryz.prog 156 [(0,⟨172,aa aO (X++(S++Y))⟩)] [.osl 0 4 0 (X++(S++Y)).length,int X.length,int (X.length+S.length:Nat),.v (.func (.func 63) #[] #[])] (.tup []) [(0,some ⟨172,aa aO (X++(aG (aK) S++Y))⟩)]:=by
 have hne2:=gQ h0
 have hlen:(X++(S++Y)).length=X.length+S.length+Y.length:=by simp;omega
 rw[hlen] at hl
 generalize hn:(X++(S++Y)).length=n at *
 generalize ha:X.length=a at *
 have hsl:(aG (aK) S).length=S.length:=bZ _ _
 refine aW 1 Tryz.func156 (fun cx hN hR hF hL=> ?_) (by simp[go_sem,hne2,qy])
 have hF2:∀b g,cx.F b=some g→b<3000:=fun b g h=>by
  have:=hF b g h
  simp[inl] at this
  omega
 have w1:=wS a
 refine' run w1 (V.l1 ?_)
 refine aX (σ:={i:Nat // i≤S.length∨i=1}) (fun s=>⟨[(8,int (a+s.1:Nat)),(0,.osl 0 4 0 n),(1,int a),(2,int (a+S.length:Nat)),(3,.v (.func (.func 63) #[] #[]))],[(0,some ⟨172,aa aO (X++(aG (aK) (S.take s.1)++(S.drop s.1++Y)))⟩)],3000⟩) (fun s=>S.length-s.1) id ⟨1,.inr rfl⟩ ?_ ?_
 ·simp only[go_sem,↓reduceIte,hF]
  refine⟨?_,hF2⟩
  rcases S with _|⟨s,S⟩
  ·rfl
  ·simp[aG,ig,dV]
 ·rintro⟨i,g1⟩
  by_cases hi:i<S.length
  ·have c1:decide (((a+i:Nat):Int)<((a+S.length:Nat):Int))=true:=by simp;omega
   refine' run c1 (V.l3 fun hq=> ?_)
   have hd:S.drop i=S[i]::S.drop (i+1):=List.drop_eq_getElem_cons hi
   have hx:True:=hS _ (List.getElem_mem hi)
   have htk:S.take (i+1)=S.take i++[S[i]]:=List.take_succ_eq_append_getElem hi
   have hacc:(aG (aK) (S.take i)).length=i:=by rw[bZ,List.length_take];omega
   have hmem:∀y,y∈aG (aK) (S.take i)→True:=fun y hy=>hS y (List.mem_of_mem_take (fO.1 hy))
   generalize S[i]=x at *
   generalize hR:S.drop (i+1)++Y=R at *
   refine aX (σ:={p:List Stp×List Stp // p.1++p.2=aG (aK) (S.take i)∧∀q,q∈p.2→aK x q=true}) (fun s=>⟨[(9,int (a+s.1.1.length:Nat)),(8,int (a+i:Nat)),(0,.osl 0 4 0 n),(1,int a),(2,int (a+S.length:Nat)),(3,.v (.func (.func 63) #[] #[]))],[(0,some ⟨172,aa aO (X++(s.1.1++(x::(s.1.2++R))))⟩)],6000⟩) (fun s=>s.1.1.length) id ⟨(aG (aK) (S.take i),[]),by simp,by simp⟩ ?_ ?_
   ·simp only[go_sem,↓reduceIte,hF]
    rw[hacc,hd,←hR]
    exact⟨rfl,rfl,fun b g h=>by have:=hF2 b g h;omega⟩
   ·rintro⟨⟨P,Q⟩,g2,g3⟩
    simp only at g2 g3
    have g4:P.length+Q.length=i:=by rw[←hacc,←g2,List.length_append]
    have hRl:R.length+i+1=S.length+Y.length:=by rw[←hR,List.length_append,List.length_drop];omega
    have e2:IntKind.i64.wrap (((a+i:Nat):Int)+1)=((a+(i+1):Nat):Int):=wE
    rcases List.eq_nil_or_concat P with hP|⟨P',p,hP⟩
    ·have c2:decide ((a:Int)<((a+P.length:Nat):Int))=false:=by rw[hP];simp
     refine' run (I c2 e2) (V.l3 fun hq=> ?_)
     refine⟨⟨i+1,.inl hi⟩,id,?_,mS⟩
     have hs:=AR g2 g3 (by rw[hP];simp)
     rw[←htk] at hs
     simp only[go_sem,↓reduceIte,hF,hs,hR]
     refine⟨?_,hF2⟩
     simp
    ·rw[List.concat_eq_append] at hP
     have hPl:P.length=P'.length+1:=by rw[hP];simp
     have hpm:True:=hmem p (by rw[←g2,hP];simp)
     have c2:decide ((a:Int)<((a+P.length:Nat):Int))=true:=by simp;omega
     have w2:IntKind.i64.wrap (((a+P.length:Nat):Int)-1)=((a+P'.length:Nat):Int):=wE
     have hLe:X++(P++x::(Q++R))=(X++P')++p::x::(Q++R):=by rw[hP];simp
     have hLx:(X++(P++x::(Q++R)))[a+P.length]? =some x:=by
      rw[←List.append_assoc];exact iQ _ _ _ _ (by rw[List.length_append,ha])
     have hLp:(X++(P++x::(Q++R)))[a+P'.length]? =some p:=by
      rw[hLe];exact iQ _ _ _ _ (by rw[List.length_append,ha])
     have hLn:(X++(P++x::(Q++R))).length=n:=by
      simp only[List.length_append,List.length_cons];omega
     have hst:=AQ (X++P') (Q++R) p x (a+P.length) (a+P'.length) (by rw[List.length_append];omega) (by rw[List.length_append];omega)
     rw[←hLe] at hst
     have hz:=gQ (l:=X++(P++x::(Q++R))) byOmega
     have b1:a+P.length<n:=byOmega
     have b2:a+P'.length<n:=byOmega
     generalize X++(P++x::(Q++R))=L at *
     have r1:=jm hLx
     have r2:=jm hLp
     have hn1:(aa aO L).length=n*4:=by rw[jV,hLn]
     have hn2:(aa aO (L.set (a+P.length) p)).length=n*4:=by rw[jV,List.length_set,hLn]
     have s1:=qz L (a+P.length) p byOmega
     have s2:=qz (L.set (a+P.length) p) (a+P'.length) x (by rw[List.length_set];omega)
     rw[hst] at s2
     cases hlt:aK x p
     ·have d1:decide (mi x p<0)=false:=by rw[qA];exact hlt
      refine' run (I c2 (I e2 (I w2 (I r1 (I r2 (I hn1 (I hz (I b1 b2)))))))) (V.l4 fun K hK=> ?_)
      ·(refine bR xq (yh x p) ai ?_)
       (revert K;refine bK ?_;refine' run (I c2 (I e2 (I w2 (I r1 (I r2 (I hn1 (I hz (I d1 (I b1 b2))))))))) (V.l3 fun hq=> ?_))
       refine⟨⟨i+1,.inl hi⟩,id,?_,mS⟩
       have hs:=AR g2 g3 (by
        rw[hP]
        intro z hz
        simp at hz
        subst hz
        exact hlt)
       rw[←htk] at hs
       simp only[go_sem,↓reduceIte,hF,hs,hR]
       refine⟨?_,hF2⟩
       rw[hLe,hP]
       simp
     ·have d1:decide (mi x p<0)=true:=by rw[qA];exact hlt
      refine' run (I c2 (I e2 (I w2 (I r1 (I r2 (I hn1 (I hz (I b1 b2)))))))) (V.l4 fun K hK=> ?_)
      ·(refine bR xq (yh x p) ai ?_)
       (revert K;refine bK ?_;refine' run (I c2 (I e2 (I w2 (I r1 (I r2 (I hn1 (I hn2 (I hz (I d1 (I s1 (I s2 (I b1 b2)))))))))))) (V.l3 fun hq=> ?_))
       ·refine⟨⟨(P',p::Q),by rw[←g2,hP];simp,by
         intro q hq
         rcases List.mem_cons.1 hq with rfl|hq
         ·exact hlt
         ·exact g3 q hq⟩,id,?_,mS⟩
        simp only[go_sem,↓reduceIte,hF]
        refine⟨?_,fun b g h=>by have:=hF2 b g h;omega⟩
        simp
  ·have c1:decide (((a+i:Nat):Int)<((a+S.length:Nat):Int))=false:=by simp;omega
   refine' run c1 (V.l3 fun hq=> ?_)
   rcases Nat.lt_or_ge S.length i with h1|h1
   ·rw[List.take_of_length_le byOmega,List.drop_eq_nil_of_le byOmega];rfl
   ·rw[List.take_of_length_le byOmega,List.drop_eq_nil_of_le byOmega];rfl
section
attribute [local go_sem] Int.reduceEq in
theorem Zc (X V Y:List Stp) (u:Stp) (hl:(X++(u::(V++Y))).length≤100000) (hu:True) (hV:∀x,x∈V→True) (sV:Srt (aK) V):
 aC Tryz.prog 157 [(0,⟨172,aa aO (X++(u::(V++Y)))⟩)] [.osl 0 4 0 (X++(u::(V++Y))).length,int X.length,int (X.length+1:Nat),int (X.length+1+V.length:Nat),.v (.func (.func 63) #[] #[])] (.tup []) [(0,some ⟨172,aa aO (X++(bz (aK) [u] V++Y))⟩)]:=by
 have hne2:=gQ (l:=X++(u::(V++Y))) (by simp;omega)
 have hlen:(X++(u::(V++Y))).length=X.length+1+V.length+Y.length:=by simp;omega
 have hLu:(X++(u::(V++Y)))[X.length]? =some u:=iQ _ _ _ _ rfl
 have hLv:∀k v,V[k]? =some v→(X++(u::(V++Y)))[X.length+1+k]? =some v:=fun k v hk=>by
  have:=qm (X:=X++[u]) (Y:=Y) (i:=X.length+1+k) hk ai
  simpa using this
 have hfin:∀i,X.length+1≤i→i≤X.length+1+V.length→X++(u::(V++Y))=X++([]++(u::(V.take (i-(X.length+1))++(V.drop (i-(X.length+1))++Y)))):=fun i _ _=>by
  rw[←List.append_assoc (V.take _),List.take_append_drop];rfl
 rw[hlen] at hl ⊢
 generalize hn:X.length+1+V.length+Y.length=n at *
 generalize hLL:X++(u::(V++Y))=L at *
 generalize ha:X.length=a at *
 refine aW 1 Tryz.func157 (fun cx hN hR hF hL=> ?_) (by simp[go_sem,hne2,qy])
 have hF2:∀b g,cx.F b=some g→b<3000:=fun b g h=>by
  have:=hF b g h
  simp[inl] at this
  omega
 have w1:IntKind.i64.wrap (((a+1:Nat):Int)-a)=1:=wE
 refine' run w1 (Go.Proofs.YtlikpcpllahalaaGreat.V.l3 fun hq=> ?_)
 refine iD mixed (σ:={p:Nat×Nat // a+1≤p.1∧p.1≤p.2∧p.2≤a+1+V.length∧(∀(k:Nat) v,V[k]? =some v→a+1+k<p.1→aK v u=true)∧(∀(k:Nat) v,V[k]? =some v→p.2≤a+1+k→aK v u=false)})
  (fun s=>⟨[(10,int s.1.1),(11,int s.1.2),(0,.osl 0 4 0 n),(1,int a),(4,.v (.func (.func 63) #[] #[]))],[(0,some ⟨172,aa aO L⟩)],4000⟩) (fun s=>s.1.2-s.1.1) id
  ⟨(a+1,a+1+V.length),Nat.le_refl _,by omega,Nat.le_refl _,fun k v _ h=>by omega,fun k v hk h=>by have:=(List.getElem?_eq_some_iff.1 hk).1;omega⟩ (by rw[hN];kernel_rfl) ?_ ?_
 ·simp only[go_sem,↓reduceIte,hF]
  exact fun b g h=>by have:=hF2 b g h;omega
 ·rintro⟨⟨i,j⟩,g1,g2,g3,g4,g5⟩
  simp only at g1 g2 g3 g4 g5
  by_cases hi:i<j
  ·have hij:(i+j)/2<j∧i≤(i+j)/2:=byOmega
   have e1:IntKind.i64.wrap ((i:Int)+j)=((i+j:Nat):Int):=wE
   have e2:IntKind.u64.wrap ((i+j:Nat):Int)=((i+j:Nat):Int):=by rw[iH]<;>omega
   have e3:=ql (i+j)
   generalize hm:(i+j)/2=q at *
   have e4:IntKind.i64.wrap (q:Int)=(q:Int):=wE
   have e5:=wS q
   obtain⟨k,hk⟩:∃k,q=a+1+k:=⟨q-(a+1),by omega⟩
   have hk2:k<V.length:=byOmega
   have hv:V[k]? =some V[k]:=List.getElem?_eq_getElem hk2
   have hpv:True:=hV _ (List.getElem_mem hk2)
   have hLq:=hLv k _ hv
   rw[←hk] at hLq
   generalize V[k]=v at *
   have r1:=jm hLu
   have r2:=jm hLq
   have hqn:q<n:=byOmega
   have han:a<n:=byOmega
   have hlr:(aa aO L).length=n*4:=by rw[jV,hlen]
   refine' run (I e1 (I e2 (I e3 (I e4 (I e5 (I r1 (I r2 (I hlr (I (eq_true hi) (I hne2 (I hqn han))))))))))) (lv (fun hq=>o4 fun K hK=> ?_) tt)
   (refine bR xq (yh v u) ai ?_)
   cases hlt:aK v u
   ·have d1:decide (mi v u<0)=false:=by rw[qA];exact hlt
    (revert K;refine bK ?_;refine' run (I e1 (I e2 (I e3 (I e4 (I e5 (I r1 (I r2 (I hlr (I hne2 (I d1 (I hqn han))))))))))) (Go.Proofs.YtlikpcpllahalaaGreat.V.l3 fun hq=> ?_))
    refine⟨⟨(i,q),g1,hij.2,by show q≤_;omega,g4,fun k' v' hk' h'=> ?_⟩,id,?_,mS⟩
    ·have h':q≤a+1+k':=h'
     refine J6 (jo) sV hv hk' byOmega hlt
    ·simp only[go_sem,↓reduceIte,hF]
     exact fun b g h=>by have:=hF2 b g h;omega
   ·have d1:decide (mi v u<0)=true:=by rw[qA];exact hlt
    (revert K;refine bK ?_;refine' run (I e1 (I e2 (I e3 (I e4 (I e5 (I r1 (I r2 (I hlr (I hne2 (I d1 (I hqn han))))))))))) (Go.Proofs.YtlikpcpllahalaaGreat.V.l3 fun hq=> ?_))
    refine⟨⟨(q+1,j),by show a+1≤q+1;omega,by show q+1≤j;omega,g3,fun k' v' hk' h'=> ?_,g5⟩,id,?_,mS⟩
    ·have h':a+1+k'<q+1:=h'
     exact J7 (jo) sV hk' hv byOmega hlt
    ·simp only[go_sem,↓reduceIte,hF]
     exact fun b g h=>by have:=hF2 b g h;omega
  ·obtain rfl:i=j:=byOmega
   have f1:=hfin i g1 g3
   obtain⟨V1,hV1⟩:∃V1,V1=V.take (i-(a+1)):=⟨_,rfl⟩
   obtain⟨V2,hV2⟩:∃V2,V2=V.drop (i-(a+1)):=⟨_,rfl⟩
   rw[←hV1,←hV2] at f1
   have hVe:V=V1++V2:=by rw[hV1,hV2,List.take_append_drop]
   have hV1l:V1.length=i-(a+1):=by rw[hV1,List.length_take];omega
   have k1:∀v,v∈V1→aK v u=true:=fun v hv=>by
    obtain⟨k,hk,rfl⟩:=List.mem_iff_getElem.1 hv
    exact g4 k _ (by rw[hVe,List.getElem?_append_left hk,List.getElem?_eq_getElem hk]) byOmega
   have k2:∀v,v∈V2→aK v u=false:=fun v hv=>by
    obtain⟨k,hk,rfl⟩:=List.mem_iff_getElem.1 hv
    exact g5 (V1.length+k) _ (by rw[hVe,List.getElem?_append_right byOmega,Nat.add_sub_cancel_left,List.getElem?_eq_getElem hk]) byOmega
   have hres:=J4 k1 k2
   rw[←hVe] at hres
   have w2:IntKind.i64.wrap ((i:Int)-1)=((a+V1.length:Nat):Int):=wE
   refine' run w2 (Go.Proofs.YtlikpcpllahalaaGreat.V.l3 fun hq=> ?_)
   refine aX (σ:={p:List Stp×List Stp // p.1++p.2=V1}) (fun s=>⟨[(13,int (a+s.1.1.length:Nat)),(0,.osl 0 4 0 n),(10,int i)],[(0,some ⟨172,aa aO (X++(s.1.1++(u::(s.1.2++(V2++Y)))))⟩)],9000⟩) (fun s=>s.1.2.length) id ⟨([],V1),rfl⟩ ?_ ?_
   ·simp only[go_sem,↓reduceIte,hF]
    rw[f1]
    exact⟨rfl,fun b g h=>by have:=hF2 b g h;omega⟩
   ·rintro⟨⟨P,Q⟩,q1⟩
    simp only at q1
    have q1l:P.length+Q.length=V1.length:=by rw[←q1,List.length_append]
    rcases Q with _|⟨x,Q⟩
    ·have c2:decide (((a+P.length:Nat):Int)<((a+V1.length:Nat):Int))=false:=by
      simp at q1l;simp;omega
     rw[List.append_nil] at q1
     subst q1
     refine' run (I w2 c2) (Go.Proofs.YtlikpcpllahalaaGreat.V.l3 fun hq=> ?_)
     rw[hres]
     simp
    ·have q2l:P.length+Q.length+1=V1.length:=by simp at q1l;omega
     have c2:decide (((a+P.length:Nat):Int)<((a+V1.length:Nat):Int))=true:=by simp;omega
     have e6:IntKind.i64.wrap (((a+P.length:Nat):Int)+1)=((a+(P.length+1):Nat):Int):=wE
     have hVl:=congrArg List.length hVe
     rw[List.length_append] at hVl
     have hLe:X++(P++(u::(x::Q++(V2++Y))))=(X++P)++u::x::(Q++(V2++Y)):=by simp
     have hLx:(X++(P++(u::(x::Q++(V2++Y)))))[a+P.length]? =some u:=by
      rw[hLe];exact iQ _ _ _ _ (by rw[List.length_append,ha])
     have hLp:(X++(P++(u::(x::Q++(V2++Y)))))[a+(P.length+1)]? =some x:=by
      rw[hLe,show(X++P)++u::x::(Q++(V2++Y))=(X++P++[u])++x::(Q++(V2++Y)) by simp];exact iQ _ _ _ _ (by simp;omega)
     have hLn:(X++(P++(u::(x::Q++(V2++Y))))).length=n:=by
      simp only[List.length_append,List.length_cons];omega
     have hst:=JS (X++P) (Q++(V2++Y)) u x (a+P.length) (a+(P.length+1)) (by rw[List.length_append];omega) (by rw[List.length_append];omega)
     rw[←hLe] at hst
     have hz:=gQ (l:=X++(P++(u::(x::Q++(V2++Y))))) byOmega
     generalize X++(P++(u::(x::Q++(V2++Y))))=M at *
     have r1:=jm hLx
     have r2:=jm hLp
     have hn1:(aa aO M).length=n*4:=by rw[jV,hLn]
     have hn2:(aa aO (M.set (a+P.length) x)).length=n*4:=by rw[jV,List.length_set,hLn]
     have b1:a+P.length<n:=byOmega
     have b2:a+(P.length+1)<n:=byOmega
     have s1:=qz M (a+P.length) x byOmega
     have s2:=qz (M.set (a+P.length) x) (a+(P.length+1)) u (by rw[List.length_set];omega)
     rw[hst] at s2
     refine' run (I w2 (I c2 (I e6 (I r1 (I r2 (I hn1 (I hn2 (I hz (I s1 (I s2 (I b1 b2))))))))))) (Go.Proofs.YtlikpcpllahalaaGreat.V.l3 fun hq=> ?_)
     refine⟨⟨(P++[x],Q),by rw[←q1];simp⟩,id,?_,by show Q.length<(x::Q).length;simp⟩
     have hlp:(P++[x]).length=P.length+1:=by simp
     simp only[go_sem,↓reduceIte,hF,hlp]
     refine⟨?_,fun b g h=>by have:=hF2 b g h;omega⟩
     simp
end
end Go.Proofs.YtlikpcpllahalaaGreat.V
