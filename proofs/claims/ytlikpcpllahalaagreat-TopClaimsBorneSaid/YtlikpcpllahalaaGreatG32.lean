/- Parts of the proof. -/
import Derived.Test.YtlikpcpllahalaaGreatG30
import Derived.Test.YtlikpcpllahalaaGreatG31
set_option maxHeartbeats 16000000
set_option linter.unusedSimpArgs false
set_option linter.unusedVariables false
namespace Go.Proofs.YtlikpcpllahalaaGreat.V
open Go.RowKit
set_option maxRecDepth 100000
attribute [local go_sem] Option.toList_some Option.toList_none Int.reduceEq Int.reduceNe
theorem VD (s:Sl) (e:Int):Fun Tryz.prog 207 [.agg s.flat,int e] (bool (decide (e≤s.from_)&&decide (s.from_<s.to_)&&decide (s.to_≤292195)&&decide (0≤s.yearly)&&decide (s.yearly≤4000000000000000000))):=by
 refine af Tryz.func207 fun cx hN hR hF hL=> ?_
 exact run tt tt
theorem Le (d v:Int) (h:¬(v≠0∧d≤292194)):aC Tryz.prog 206 [(0,⟨320,[.v (.slice none 0 0),.v (.slice none 0 0)]⟩)] [int d,int v,.ptr 0 0] (.tup []) []:=by
 have hz:(0<((0:Nat):Int))=False:=by simp
 have hq:∀b:Bool,b=(!decide (v=0)&&decide (d≤292194))→b=false:=fun b hb=>by
  rw[hb];by_cases h1:v=0
  ·simp[h1]
  ·simp[h1];omega
 refine aW 1 Tryz.func206 (fun cx hN hR hF hL=> ?_)
 by_cases h1:v=0
 ·exact run (I hz (I (decide_eq_false (of_eq_false hz)) h1)) tt
 ·have h2:(d≤292194)=False:=eF
  exact run (I hz (I (decide_eq_false (of_eq_false hz)) (I (eq_false h1) (I (decide_eq_false h1) (I h2 (decide_eq_false (of_eq_false h2))))))) tt
theorem VE (d v:Int) (h:v≠0∧d≤292194):aC Tryz.prog 206 [(0,⟨320,[.v (.slice none 0 0),.v (.slice none 0 0)]⟩)] [int d,int v,.ptr 0 0] (.tup [])
 [(0,some ⟨320,[.osl 1 1 0 1,.osl 2 1 0 1]⟩),(1,some ⟨3,aa ak [d]⟩),(2,some ⟨3,aa ak [v]⟩)]:=by
 have hz:(0<((0:Nat):Int))=False:=by simp
 have h1:(v=0)=False:=eq_false h.1
 have h2:(d≤292194)=True:=eq_true h.2
 refine fu 3 Tryz.func206 rfl (Nat.le_of_ble_eq_true rfl) (by simp[go_sem]) fun cx hN hR hF hL=> ?_;apply fw;(case hA=>(simp only[go_sem,↓reduceIte];rfl));(case hB=>(simp only[go_sem,↓reduceIte];rfl))
 refine iM (aL ?_)
 (try focus ((try(revert K;refine bK ?_));refine' run (I hz (I (decide_eq_false (of_eq_false hz)) (I h1 (I h2 (I (decide_eq_true h.2) (decide_eq_false h.1)))))) ?_;(repeat' first|exact tt|apply lv|(apply oK;intro K hK)|intro hq);all_goals apply lf))
 ·refine⟨gZ 1 6035 2 6075,⟨[],[(0,some ⟨320,[.osl 1 1 0 1,.osl 2 1 0 1]⟩),(1,some ⟨3,aa ak [d]⟩),(2,some ⟨3,aa ak [v]⟩)],3⟩,?_,?_⟩
  ·simp only[go_sem,↓reduceIte,hF]
   refine⟨by simp[aa,ak],fun b g h=> ?_⟩
   have:=hF b g h
   simp[inl] at this
   subst this
   simp
  ·exact run tt tt
 all_goals simp[maxLen]
theorem qB (p:List Int) (x:Int):(aa ak (p++[x]))[p.length]? =some (int x):=by
 rw[Jy,List.getElem?_append_right (Nat.le_refl _),Nat.sub_self];rfl
theorem Bq (p q:List Int):List.take p.length (aa ak (p++q))=aa ak p:=by
 have h:=(ET (F:=ak) (k:=1) (fun _=>rfl) (p++q) p.length).1
 rw[List.take_left,Nat.mul_one] at h
 exact h.symm
theorem jW (p:List Int) (x y:Int):aa ak (p++[x,y])=aa ak (p++[x])++[int y]:=by simp[aa,ak]
theorem lL (p:List Int) (x:Int):(aa ak (p++[x])=[])=False:=eq_false (by rw[←List.length_eq_zero_iff,cz];simp)
theorem VF (g k:List Int) (d v:Int) (hg:g≠ []) (hk:k≠ []) (hp:v≠0∧d≤292194):aC Tryz.prog 206 [(0,⟨320,[.osl 1 1 0 0,.osl 2 1 0 0]⟩),(1,⟨3,aa ak g⟩),(2,⟨3,aa ak k⟩)] [int d,int v,.ptr 0 0] (.tup []) [(0,some ⟨320,[.osl 3 1 0 1,.osl 4 1 0 1]⟩),(1,none),(2,none),(3,some ⟨3,aa ak [d]⟩),(4,some ⟨3,aa ak [v]⟩)]:=by
 have hz:(0<((0:Nat):Int))=False:=by simp
 have h1:(v=0)=False:=eq_false hp.1
 have h2:(d≤292194)=True:=eq_true hp.2
 have n1:(aa ak g=[])=False:=eq_false (by rw[←List.length_eq_zero_iff,cz,List.length_eq_zero_iff];exact hg)
 have n2:(aa ak k=[])=False:=eq_false (by rw[←List.length_eq_zero_iff,cz,List.length_eq_zero_iff];exact hk)
 refine fu 5 Tryz.func206 rfl (Nat.le_of_ble_eq_true rfl) (by simp[go_sem,n1,n2]) fun cx hN hR hF hL=> ?_;apply fw;(case hA=>(simp only[go_sem,↓reduceIte];rfl));(case hB=>(simp only[go_sem,↓reduceIte];rfl))
 refine Bp (box':=[(0,some ⟨320,[.osl 1 1 0 0,.osl 2 1 0 0]⟩),(1,some ⟨3,[]⟩),(2,some ⟨3,[]⟩)]) (fun b=>if b=1∨b=2 then some 0 else none) (fun b=>by by_cases h0:b=0<;>by_cases h1:b=1<;>by_cases h2:b=2<;>(first|(simp[ah,ax,h0,h1,h2];done)|(simp[ah,ax,h0,h1,h2];omega)|omega)) ?_
 refine iM (aL ?_)
 (try focus ((try(revert K;refine bK ?_));refine' run (I hz (I (decide_eq_false (of_eq_false hz)) (I h1 (I h2 (I (decide_eq_true hp.2) (decide_eq_false hp.1)))))) ?_;(repeat' first|exact tt|apply lv|(apply oK;intro K hK)|intro hq);all_goals apply lf))
 ·refine⟨gZ 3 6037 4 6077,⟨[],[(0,some ⟨320,[.osl 3 1 0 1,.osl 4 1 0 1]⟩),(3,some ⟨3,aa ak [d]⟩),(4,some ⟨3,aa ak [v]⟩)],5⟩,?_,?_⟩
  ·simp only[go_sem,↓reduceIte,hF]
   first|refine⟨by first|(simp only[List.map_append,lF,List.all_append,kJ,jW];simp;done)|simp[aa,ak],fun b g h=> ?_⟩|intro b g h
   have:=hF b g h
   simp[inl] at this
   rcases this with h|h|h<;>subst h<;>simp
  ·exact run tt tt
 all_goals simp[maxLen]
 all_goals omega
theorem VG (g k:List Int) (d v:Int) (hg:g≠ []) (hk:k≠ []) (hp:¬(v≠0∧d≤292194)):aC Tryz.prog 206 [(0,⟨320,[.osl 1 1 0 0,.osl 2 1 0 0]⟩),(1,⟨3,aa ak g⟩),(2,⟨3,aa ak k⟩)] [int d,int v,.ptr 0 0] (.tup []) [(0,some ⟨320,[.osl 3 1 0 0,.osl 4 1 0 0]⟩),(1,none),(2,none),(3,some ⟨3,aa ak g⟩),(4,some ⟨3,aa ak k⟩)]:=by
 have hz:(0<((0:Nat):Int))=False:=by simp
 have n1:(aa ak g=[])=False:=eq_false (by rw[←List.length_eq_zero_iff,cz,List.length_eq_zero_iff];exact hg)
 have n2:(aa ak k=[])=False:=eq_false (by rw[←List.length_eq_zero_iff,cz,List.length_eq_zero_iff];exact hk)
 refine fu 5 Tryz.func206 rfl (Nat.le_of_ble_eq_true rfl) (by simp[go_sem,n1,n2]) fun cx hN hR hF hL=> ?_;apply fw;(case hA=>(simp only[go_sem,↓reduceIte];rfl));(case hB=>(simp only[go_sem,↓reduceIte];rfl))
 refine iM (aL ?_)
 by_cases h1:v=0
 ·refine' run (I hz (I (decide_eq_false (of_eq_false hz)) (I h1 (I (decide_eq_true h1) (eq_true h1))))) (lv (fun hq=>fun hq=>fun hq=>lf ?_) tt)
  ·refine⟨gZ 3 1 4 2,⟨[],[(0,some ⟨320,[.osl 3 1 0 0,.osl 4 1 0 0]⟩),(3,some ⟨3,aa ak g⟩),(4,some ⟨3,aa ak k⟩)],5⟩,?_,?_⟩
   ·simp only[go_sem,↓reduceIte,hF]
    first|refine⟨by first|(simp only[List.map_append,lF,List.all_append,kJ,jW];simp;done)|simp[aa,ak],fun b g h=> ?_⟩|intro b g h
    have:=hF b g h
    simp[inl] at this
    rcases this with h|h|h<;>subst h<;>simp
   ·exact run tt tt
  all_goals simp[maxLen]
  all_goals omega
 ·have h2:(d≤292194)=False:=eF
  refine' run (I hz (I (decide_eq_false (of_eq_false hz)) (I (eq_false h1) (I (decide_eq_false h1) (I h2 (decide_eq_false (of_eq_false h2))))))) (lv (fun hq=>fun hq=>fun hq=>lf ?_) tt)
  ·refine⟨gZ 3 1 4 2,⟨[],[(0,some ⟨320,[.osl 3 1 0 0,.osl 4 1 0 0]⟩),(3,some ⟨3,aa ak g⟩),(4,some ⟨3,aa ak k⟩)],5⟩,?_,?_⟩
   ·simp only[go_sem,↓reduceIte,hF]
    first|refine⟨by first|(simp only[List.map_append,lF,List.all_append,kJ,jW];simp;done)|simp[aa,ak],fun b g h=> ?_⟩|intro b g h
    have:=hF b g h
    simp[inl] at this
    rcases this with h|h|h<;>subst h<;>simp
   ·exact run tt tt
  all_goals simp[maxLen]
  all_goals omega
theorem VH (p q:List Int) (x y d v:Int) (hl:p.length=q.length) (hb:p.length≤5000) (hx:¬x=d) (hp:v≠y∧d≤292194):aC Tryz.prog 206 [(0,⟨320,[.osl 1 1 0 (p.length+1),.osl 2 1 0 (q.length+1)]⟩),(1,⟨3,aa ak (p++[x])⟩),(2,⟨3,aa ak (q++[y])⟩)] [int d,int v,.ptr 0 0] (.tup []) [(0,some ⟨320,[.osl 3 1 0 (p.length+2),.osl 4 1 0 (q.length+2)]⟩),(1,none),(2,none),(3,some ⟨3,aa ak (p++[x,d])⟩),(4,some ⟨3,aa ak (q++[y,v])⟩)]:=by
 have w0:IntKind.i64.wrap (((p.length+1:Nat):Int)-1)=(p.length:Int):=wE
 have w1:IntKind.i64.wrap (((q.length+1:Nat):Int)-1)=(q.length:Int):=wE
 have c0:(0<((p.length+1:Nat):Int))=True:=eT
 have c1:(0<((q.length+1:Nat):Int))=True:=eT
 have c2:(0≤(p.length:Int))=True:=eT
 have c3:(0≤(q.length:Int))=True:=eT
 have m1:=qB p x
 have m2:=qB q y
 have n1:=lL p x
 have n2:=lL q y
 have l1:(aa ak (p++[x])).length=p.length+1:=by rw[cz];simp
 have l2:(aa ak (q++[y])).length=q.length+1:=by rw[cz];simp
 have h1:(v=y)=False:=eq_false hp.1
 have h2:(d≤292194)=True:=eq_true hp.2
 refine fu 5 Tryz.func206 rfl (Nat.le_of_ble_eq_true rfl) (by simp[go_sem,n1,n2]) fun cx hN hR hF hL=> ?_;apply fw;(case hA=>(simp only[go_sem,↓reduceIte];rfl));(case hB=>(simp only[go_sem,↓reduceIte];rfl))
 refine iM (aL ?_)
 refine' run (I w0 (I w1 (I c0 (I c1 (I c2 (I c3 (I (decide_eq_true (of_eq_true c0)) (I (decide_eq_true (of_eq_true c1)) (I m1 (I m2 (I l1 (I l2 (I n1 (I n2 (I h1 (I h2 (I (decide_eq_true hp.2) (I (decide_eq_false hp.1) (I (eq_false hx) (decide_eq_false hx)))))))))))))))))))) (lv (fun hq=>fun hq=>fun hq=>lf ?_) (lv (fun hq=>fun hq=>fun hq=>o4 fun K hK=> ?_) (lv (fun hq=>fun hq=>fun hq=>o4 fun K hK=> ?_) tt)))
 ·refine⟨gZ 3 7037 4 7077,⟨[],[(0,some ⟨320,[.osl 3 1 0 (p.length+2),.osl 4 1 0 (q.length+2)]⟩),(3,some ⟨3,aa ak (p++[x,d])⟩),(4,some ⟨3,aa ak (q++[y,v])⟩)],5⟩,?_,?_⟩
  ·simp only[go_sem,↓reduceIte,hF,jW]
   first|refine⟨by first|(simp only[List.map_append,lF,List.all_append,kJ,jW];simp;done)|simp[aa,ak],fun b g h=> ?_⟩|intro b g h
   have:=hF b g h
   simp[inl] at this
   rcases this with h|h|h<;>subst h<;>simp
  ·exact run tt tt
 all_goals simp[maxLen]
 all_goals omega
theorem VI (p q:List Int) (x y d v:Int) (hl:p.length=q.length) (hb:p.length≤5000) (hx:¬x=d) (hp:¬(v≠y∧d≤292194)):aC Tryz.prog 206 [(0,⟨320,[.osl 1 1 0 (p.length+1),.osl 2 1 0 (q.length+1)]⟩),(1,⟨3,aa ak (p++[x])⟩),(2,⟨3,aa ak (q++[y])⟩)] [int d,int v,.ptr 0 0] (.tup []) [(0,some ⟨320,[.osl 3 1 0 (p.length+1),.osl 4 1 0 (q.length+1)]⟩),(1,none),(2,none),(3,some ⟨3,aa ak (p++[x])⟩),(4,some ⟨3,aa ak (q++[y])⟩)]:=by
 have w0:IntKind.i64.wrap (((p.length+1:Nat):Int)-1)=(p.length:Int):=wE
 have w1:IntKind.i64.wrap (((q.length+1:Nat):Int)-1)=(q.length:Int):=wE
 have c0:(0<((p.length+1:Nat):Int))=True:=eT
 have c1:(0<((q.length+1:Nat):Int))=True:=eT
 have c2:(0≤(p.length:Int))=True:=eT
 have c3:(0≤(q.length:Int))=True:=eT
 have m1:=qB p x
 have m2:=qB q y
 have n1:=lL p x
 have n2:=lL q y
 have l1:(aa ak (p++[x])).length=p.length+1:=by rw[cz];simp
 have l2:(aa ak (q++[y])).length=q.length+1:=by rw[cz];simp
 refine fu 5 Tryz.func206 rfl (Nat.le_of_ble_eq_true rfl) (by simp[go_sem,n1,n2]) fun cx hN hR hF hL=> ?_;apply fw;(case hA=>(simp only[go_sem,↓reduceIte];rfl));(case hB=>(simp only[go_sem,↓reduceIte];rfl))
 refine iM (aL ?_)
 by_cases h1:v=y
 ·refine' run (I w0 (I w1 (I c0 (I c1 (I c2 (I c3 (I (decide_eq_true (of_eq_true c0)) (I (decide_eq_true (of_eq_true c1)) (I m1 (I m2 (I l1 (I l2 (I n1 (I n2 (I (eq_false hx) (I (decide_eq_false hx) (I h1 (I (decide_eq_true h1) (eq_true h1))))))))))))))))))) (lv (fun hq=>fun hq=>fun hq=>lf ?_) tt)
  ·refine⟨gZ 3 1 4 2,⟨[],[(0,some ⟨320,[.osl 3 1 0 (p.length+1),.osl 4 1 0 (q.length+1)]⟩),(3,some ⟨3,aa ak (p++[x])⟩),(4,some ⟨3,aa ak (q++[y])⟩)],5⟩,?_,?_⟩
   ·simp only[go_sem,↓reduceIte,hF]
    first|refine⟨by first|(simp only[List.map_append,lF,List.all_append,kJ,jW];simp;done)|simp[aa,ak],fun b g h=> ?_⟩|intro b g h
    have:=hF b g h
    simp[inl] at this
    rcases this with h|h|h<;>subst h<;>simp
   ·exact run tt tt
  all_goals simp[maxLen]
  all_goals omega
 ·have h2:(d≤292194)=False:=eF
  refine' run (I w0 (I w1 (I c0 (I c1 (I c2 (I c3 (I (decide_eq_true (of_eq_true c0)) (I (decide_eq_true (of_eq_true c1)) (I m1 (I m2 (I l1 (I l2 (I n1 (I n2 (I (eq_false hx) (I (decide_eq_false hx) (I (eq_false h1) (I (decide_eq_false h1) (I h2 (decide_eq_false (of_eq_false h2))))))))))))))))))))) (lv (fun hq=>fun hq=>fun hq=>lf ?_) tt)
  ·refine⟨gZ 3 1 4 2,⟨[],[(0,some ⟨320,[.osl 3 1 0 (p.length+1),.osl 4 1 0 (q.length+1)]⟩),(3,some ⟨3,aa ak (p++[x])⟩),(4,some ⟨3,aa ak (q++[y])⟩)],5⟩,?_,?_⟩
   ·simp only[go_sem,↓reduceIte,hF]
    first|refine⟨by first|(simp only[List.map_append,lF,List.all_append,kJ,jW];simp;done)|simp[aa,ak],fun b g h=> ?_⟩|intro b g h
    have:=hF b g h
    simp[inl] at this
    rcases this with h|h|h<;>subst h<;>simp
   ·exact run tt tt
  all_goals simp[maxLen]
  all_goals omega
theorem VJ (y d v:Int) (hp:¬(v≠0∧d≤292194)):aC Tryz.prog 206 [(0,⟨320,[.osl 1 1 0 1,.osl 2 1 0 1]⟩),(1,⟨3,[int d]⟩),(2,⟨3,[int y]⟩)] [int d,int v,.ptr 0 0] (.tup []) [(0,some ⟨320,[.osl 3 1 0 0,.osl 4 1 0 0]⟩),(1,none),(2,none),(3,some ⟨3,aa ak [d]⟩),(4,some ⟨3,aa ak [y]⟩)]:=by
 have hz:(0<((0:Nat):Int))=False:=by simp
 have c0:(0<((1:Nat):Int))=True:=eq_true ai
 have w0:IntKind.i64.wrap (((1:Nat):Int)-1)=((0:Nat):Int):=by rfl
 have z0:(0≤((0:Nat):Int))=True:=eq_true ai
 have z1:(((0:Nat):Int)<((1:Nat):Int))=True:=eq_true ai
 refine fu 5 Tryz.func206 rfl (Nat.le_of_ble_eq_true rfl) (by simp[go_sem]) fun cx hN hR hF hL=> ?_;apply fw;(case hA=>(simp only[go_sem,↓reduceIte];rfl));(case hB=>(simp only[go_sem,↓reduceIte];rfl))
 refine iM (aL ?_)
 by_cases h1:v=0
 ·refine' run (I c0 (I w0 (I z0 (I z1 (I (decide_eq_true (of_eq_true c0)) (I hz (I (decide_eq_false (of_eq_false hz)) (I h1 (I (decide_eq_true h1) (eq_true h1)))))))))) (lv (fun hq=>fun hq=>fun hq=>lf ?_) tt)
  ·refine⟨gZ 3 1 4 2,⟨[],[(0,some ⟨320,[.osl 3 1 0 0,.osl 4 1 0 0]⟩),(3,some ⟨3,aa ak [d]⟩),(4,some ⟨3,aa ak [y]⟩)],5⟩,?_,?_⟩
   ·simp only[go_sem,↓reduceIte,hF]
    first|refine⟨by first|(simp only[List.map_append,lF,List.all_append,kJ,jW];simp;done)|simp[aa,ak],fun b g h=> ?_⟩|intro b g h
    have:=hF b g h
    simp[inl] at this
    rcases this with h|h|h<;>subst h<;>simp
   ·exact run tt tt
  all_goals simp[maxLen]
  all_goals omega
 ·have h2:(d≤292194)=False:=eF
  refine' run (I c0 (I w0 (I z0 (I z1 (I (decide_eq_true (of_eq_true c0)) (I hz (I (decide_eq_false (of_eq_false hz)) (I (eq_false h1) (I (decide_eq_false h1) (I h2 (decide_eq_false (of_eq_false h2)))))))))))) (lv (fun hq=>fun hq=>fun hq=>lf ?_) tt)
  ·refine⟨gZ 3 1 4 2,⟨[],[(0,some ⟨320,[.osl 3 1 0 0,.osl 4 1 0 0]⟩),(3,some ⟨3,aa ak [d]⟩),(4,some ⟨3,aa ak [y]⟩)],5⟩,?_,?_⟩
   ·simp only[go_sem,↓reduceIte,hF]
    first|refine⟨by first|(simp only[List.map_append,lF,List.all_append,kJ,jW];simp;done)|simp[aa,ak],fun b g h=> ?_⟩|intro b g h
    have:=hF b g h
    simp[inl] at this
    rcases this with h|h|h<;>subst h<;>simp
   ·exact run tt tt
  all_goals simp[maxLen]
  all_goals omega
theorem VK (y d v:Int) (hp:v≠0∧d≤292194):aC Tryz.prog 206 [(0,⟨320,[.osl 1 1 0 1,.osl 2 1 0 1]⟩),(1,⟨3,[int d]⟩),(2,⟨3,[int y]⟩)] [int d,int v,.ptr 0 0] (.tup []) [(0,some ⟨320,[.osl 3 1 0 1,.osl 4 1 0 1]⟩),(1,none),(2,none),(3,some ⟨3,aa ak [d]⟩),(4,some ⟨3,aa ak [v]⟩)]:=by
 have hz:(0<((0:Nat):Int))=False:=by simp
 have c0:(0<((1:Nat):Int))=True:=eq_true ai
 have w0:IntKind.i64.wrap (((1:Nat):Int)-1)=((0:Nat):Int):=by rfl
 have z0:(0≤((0:Nat):Int))=True:=eq_true ai
 have z1:(((0:Nat):Int)<((1:Nat):Int))=True:=eq_true ai
 have h1:(v=0)=False:=eq_false hp.1
 have h2:(d≤292194)=True:=eq_true hp.2
 refine fu 5 Tryz.func206 rfl (Nat.le_of_ble_eq_true rfl) (by simp[go_sem]) fun cx hN hR hF hL=> ?_;apply fw;(case hA=>(simp only[go_sem,↓reduceIte];rfl));(case hB=>(simp only[go_sem,↓reduceIte];rfl))
 refine iM (eX (aL ?_))
 refine' run (I c0 (I w0 (I z0 (I z1 (decide_eq_true (of_eq_true c0)))))) (V.l3 fun hq=> ?_)
 refine Bp (box':=[(0,some ⟨320,[.osl 1 1 0 0,.osl 2 1 0 0]⟩),(1,some ⟨3,[]⟩),(2,some ⟨3,[]⟩)]) (fun b=>if b=1∨b=2 then some 0 else none) (fun b=>by by_cases h0:b=0<;>by_cases h1:b=1<;>by_cases h2:b=2<;>(first|(simp[ah,ax,h0,h1,h2];done)|(simp[ah,ax,h0,h1,h2];omega)|omega)) ?_
 refine aL ?_
 (try focus ((try(revert K;refine bK ?_));refine' run (I hz (I (decide_eq_false (of_eq_false hz)) (I h1 (I h2 (I (decide_eq_true hp.2) (decide_eq_false hp.1)))))) ?_;(repeat' first|exact tt|apply lv|(apply oK;intro K hK)|intro hq);all_goals apply lf))
 ·refine⟨gZ 3 7037 4 7077,⟨[],[(0,some ⟨320,[.osl 3 1 0 1,.osl 4 1 0 1]⟩),(3,some ⟨3,aa ak [d]⟩),(4,some ⟨3,aa ak [v]⟩)],5⟩,?_,?_⟩
  ·simp only[go_sem,↓reduceIte,hF]
   first|refine⟨by first|(simp only[List.map_append,lF,List.all_append,kJ,jW];simp;done)|simp[aa,ak],fun b g h=> ?_⟩|intro b g h
   have:=hF b g h
   simp[inl] at this
   rcases this with h|h|h<;>subst h<;>simp
  ·exact run tt tt
 all_goals simp[maxLen]
 all_goals omega
theorem VL (p q:List Int) (z u y d v:Int) (hl:p.length=q.length) (hb:p.length≤5000) (hp:v≠u∧d≤292194):aC Tryz.prog 206 [(0,⟨320,[.osl 1 1 0 (p.length+2),.osl 2 1 0 (q.length+2)]⟩),(1,⟨3,aa ak (p++[z,d])⟩),(2,⟨3,aa ak (q++[u,y])⟩)] [int d,int v,.ptr 0 0] (.tup []) [(0,some ⟨320,[.osl 3 1 0 (p.length+2),.osl 4 1 0 (q.length+2)]⟩),(1,none),(2,none),(3,some ⟨3,aa ak (p++[z,d])⟩),(4,some ⟨3,aa ak (q++[u,v])⟩)]:=by
 have w0:IntKind.i64.wrap (((p.length+2:Nat):Int)-1)=((p.length+1:Nat):Int):=wE
 have w1:IntKind.i64.wrap (((q.length+2:Nat):Int)-1)=((q.length+1:Nat):Int):=wE
 have w2:IntKind.i64.wrap (((q.length+1:Nat):Int)-1)=(q.length:Int):=wE
 have c0:(0<((p.length+2:Nat):Int))=True:=eT
 have c1:(0<((q.length+1:Nat):Int))=True:=eT
 have c2:(0≤((p.length+1:Nat):Int))=True:=eT
 have c3:(0≤(q.length:Int))=True:=eT
 have m1:(aa ak (p++[z,d]))[p.length+1]? =some (int d):=by have:=qB (p++[z]) d;simpa using this
 have m2:=qB q u
 have n1:(aa ak (p++[z,d])=[])=False:=by have:=lL (p++[z]) d;simpa using this
 have n2:(aa ak (q++[u,y])=[])=False:=by have:=lL (q++[u]) y;simpa using this
 have n3:=lL p z
 have n4:=lL q u
 have l1:(aa ak (p++[z,d])).length=p.length+2:=by rw[cz];simp
 have l2:(aa ak (q++[u,y])).length=q.length+2:=by rw[cz];simp
 have l3:(aa ak (p++[z])).length=p.length+1:=by rw[cz];simp
 have l4:(aa ak (q++[u])).length=q.length+1:=by rw[cz];simp
 have t1:List.take (p.length+1) (aa ak (p++[z,d]))=aa ak (p++[z]):=by have:=Bq (p++[z]) [d];simpa using this
 have t2:List.take (p.length+1) (aa ak (q++[u,y]))=aa ak (q++[u]):=by have:=Bq (q++[u]) [y];simpa[hl] using this
 have h1:(v=u)=False:=eq_false hp.1
 have h2:(d≤292194)=True:=eq_true hp.2
 refine fu 5 Tryz.func206 rfl (Nat.le_of_ble_eq_true rfl) (by simp[go_sem,n1,n2]) fun cx hN hR hF hL=> ?_;apply fw;(case hA=>(simp only[go_sem,↓reduceIte];rfl));(case hB=>(simp only[go_sem,↓reduceIte];rfl))
 refine iM (eX (aL ?_))
 refine' run (I w0 (I w1 (I c0 (I c2 (I (decide_eq_true (of_eq_true c0)) (I m1 (I l1 (I l2 (I n1 n2))))))))) (V.l3 fun hq=> ?_)
 refine Bp (box':=[(0,some ⟨320,[.osl 1 1 0 (p.length+1),.osl 2 1 0 (q.length+1)]⟩),(1,some ⟨3,aa ak (p++[z])⟩),(2,some ⟨3,aa ak (q++[u])⟩)]) (fun b=>if b=1∨b=2 then some (p.length+1) else none) (fun b=>by by_cases h0:b=0<;>by_cases h1:b=1<;>by_cases h2:b=2<;>(first|(simp[ah,ax,h0,h1,h2,t1,t2];done)|(simp[ah,ax,h0,h1,h2];omega)|omega)) ?_
 refine aL ?_
 refine' run (I w2 (I c1 (I c3 (I (decide_eq_true (of_eq_true c1)) (I m2 (I l3 (I l4 (I n3 (I n4 (I h1 (I h2 (I (decide_eq_true hp.2) (decide_eq_false hp.1))))))))))))) (lv (fun hq=>fun hq=>lf ?_) (lv (fun hq=>fun hq=>o4 fun K hK=> ?_) (lv (fun hq=>fun hq=>o4 fun K hK=> ?_) tt)))
 ·refine⟨gZ 3 8037 4 8077,⟨[],[(0,some ⟨320,[.osl 3 1 0 (p.length+2),.osl 4 1 0 (q.length+2)]⟩),(3,some ⟨3,aa ak (p++[z,d])⟩),(4,some ⟨3,aa ak (q++[u,v])⟩)],5⟩,?_,?_⟩
  ·simp only[go_sem,↓reduceIte,hF,jW]
   first|refine⟨by first|(simp only[List.map_append,lF,List.all_append,kJ,jW];simp;done)|simp[aa,ak],fun b g h=> ?_⟩|intro b g h
   have:=hF b g h
   simp[inl] at this
   rcases this with h|h|h<;>subst h<;>simp
  ·exact run tt tt
 all_goals simp[maxLen]
 all_goals omega
theorem VM (p q:List Int) (z u y d v:Int) (hl:p.length=q.length) (hb:p.length≤5000) (hp:¬(v≠u∧d≤292194)):aC Tryz.prog 206 [(0,⟨320,[.osl 1 1 0 (p.length+2),.osl 2 1 0 (q.length+2)]⟩),(1,⟨3,aa ak (p++[z,d])⟩),(2,⟨3,aa ak (q++[u,y])⟩)] [int d,int v,.ptr 0 0] (.tup []) [(0,some ⟨320,[.osl 3 1 0 (p.length+1),.osl 4 1 0 (q.length+1)]⟩),(1,none),(2,none),(3,some ⟨3,aa ak (p++[z])⟩),(4,some ⟨3,aa ak (q++[u])⟩)]:=by
 have w0:IntKind.i64.wrap (((p.length+2:Nat):Int)-1)=((p.length+1:Nat):Int):=wE
 have w1:IntKind.i64.wrap (((q.length+2:Nat):Int)-1)=((q.length+1:Nat):Int):=wE
 have w2:IntKind.i64.wrap (((q.length+1:Nat):Int)-1)=(q.length:Int):=wE
 have c0:(0<((p.length+2:Nat):Int))=True:=eT
 have c1:(0<((q.length+1:Nat):Int))=True:=eT
 have c2:(0≤((p.length+1:Nat):Int))=True:=eT
 have c3:(0≤(q.length:Int))=True:=eT
 have m1:(aa ak (p++[z,d]))[p.length+1]? =some (int d):=by have:=qB (p++[z]) d;simpa using this
 have m2:=qB q u
 have n1:(aa ak (p++[z,d])=[])=False:=by have:=lL (p++[z]) d;simpa using this
 have n2:(aa ak (q++[u,y])=[])=False:=by have:=lL (q++[u]) y;simpa using this
 have n3:=lL p z
 have n4:=lL q u
 have l1:(aa ak (p++[z,d])).length=p.length+2:=by rw[cz];simp
 have l2:(aa ak (q++[u,y])).length=q.length+2:=by rw[cz];simp
 have l3:(aa ak (p++[z])).length=p.length+1:=by rw[cz];simp
 have l4:(aa ak (q++[u])).length=q.length+1:=by rw[cz];simp
 have t1:List.take (p.length+1) (aa ak (p++[z,d]))=aa ak (p++[z]):=by have:=Bq (p++[z]) [d];simpa using this
 have t2:List.take (p.length+1) (aa ak (q++[u,y]))=aa ak (q++[u]):=by have:=Bq (q++[u]) [y];simpa[hl] using this
 refine fu 5 Tryz.func206 rfl (Nat.le_of_ble_eq_true rfl) (by simp[go_sem,n1,n2]) fun cx hN hR hF hL=> ?_;apply fw;(case hA=>(simp only[go_sem,↓reduceIte];rfl));(case hB=>(simp only[go_sem,↓reduceIte];rfl))
 refine iM (eX (aL ?_))
 refine' run (I w0 (I w1 (I c0 (I c2 (I (decide_eq_true (of_eq_true c0)) (I m1 (I l1 (I l2 (I n1 n2))))))))) (V.l3 fun hq=> ?_)
 refine Bp (box':=[(0,some ⟨320,[.osl 1 1 0 (p.length+1),.osl 2 1 0 (q.length+1)]⟩),(1,some ⟨3,aa ak (p++[z])⟩),(2,some ⟨3,aa ak (q++[u])⟩)]) (fun b=>if b=1∨b=2 then some (p.length+1) else none) (fun b=>by by_cases h0:b=0<;>by_cases h1:b=1<;>by_cases h2:b=2<;>(first|(simp[ah,ax,h0,h1,h2,t1,t2];done)|(simp[ah,ax,h0,h1,h2];omega)|omega)) ?_
 refine aL ?_
 by_cases h1:v=u
 ·refine' run (I w2 (I c1 (I c3 (I (decide_eq_true (of_eq_true c1)) (I m2 (I l3 (I l4 (I n3 (I n4 (I h1 (I (decide_eq_true h1) (eq_true h1)))))))))))) (lv (fun hq=>fun hq=>lf ?_) tt)
  ·refine⟨gZ 3 1 4 2,⟨[],[(0,some ⟨320,[.osl 3 1 0 (p.length+1),.osl 4 1 0 (q.length+1)]⟩),(3,some ⟨3,aa ak (p++[z])⟩),(4,some ⟨3,aa ak (q++[u])⟩)],5⟩,?_,?_⟩
   ·simp only[go_sem,↓reduceIte,hF]
    first|refine⟨by first|(simp only[List.map_append,lF,List.all_append,kJ,jW];simp;done)|simp[aa,ak],fun b g h=> ?_⟩|intro b g h
    have:=hF b g h
    simp[inl] at this
    rcases this with h|h|h<;>subst h<;>simp
   ·exact run tt tt
  all_goals simp[maxLen]
  all_goals omega
 ·have h2:(d≤292194)=False:=eF
  refine' run (I w2 (I c1 (I c3 (I (decide_eq_true (of_eq_true c1)) (I m2 (I l3 (I l4 (I n3 (I n4 (I (eq_false h1) (I (decide_eq_false h1) (I h2 (decide_eq_false (of_eq_false h2)))))))))))))) (lv (fun hq=>fun hq=>lf ?_) tt)
  ·refine⟨gZ 3 1 4 2,⟨[],[(0,some ⟨320,[.osl 3 1 0 (p.length+1),.osl 4 1 0 (q.length+1)]⟩),(3,some ⟨3,aa ak (p++[z])⟩),(4,some ⟨3,aa ak (q++[u])⟩)],5⟩,?_,?_⟩
   ·simp only[go_sem,↓reduceIte,hF]
    first|refine⟨by first|(simp only[List.map_append,lF,List.all_append,kJ,jW];simp;done)|simp[aa,ak],fun b g h=> ?_⟩|intro b g h
    have:=hF b g h
    simp[inl] at this
    rcases this with h|h|h<;>subst h<;>simp
   ·exact run tt tt
  all_goals simp[maxLen]
  all_goals omega
end Go.Proofs.YtlikpcpllahalaaGreat.V
