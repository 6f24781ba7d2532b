/- Parts of the proof. -/
import Derived.Test.YtlikpcpllahalaaGreatG32
import Derived.Test.YtlikpcpllahalaaGreatG21
import Derived.Test.YtlikpcpllahalaaGreatG20
import Derived.Test.YtlikpcpllahalaaGreatG17
import Derived.Test.YtlikpcpllahalaaGreatG18
import Derived.RangeFuncNested
import Derived.RangeFuncBound
import Derived.RangeFuncCalls
import Derived.RangeFuncLeaves
import Derived.Shelf.Abstract
import Derived.Shelf.RegionOpen
import Derived.WalkKit
import Derived.OwnWalkIn
import Derived.TacticsInMore
import Derived.LoopNIn
import Derived.LoopIn
import Derived.Stop.RegionWithIn
set_option maxHeartbeats 16000000
set_option linter.unusedSimpArgs false
set_option linter.unusedVariables false
namespace Go.Proofs.YtlikpcpllahalaaGreat.V
open Go.RowKit
set_option maxRecDepth 100000
structure CS where
 A:List Int
 V:List Int
 J:List Int
 K:List Int
def CS.ok (s:CS):Prop:=s.A.length=s.V.length∧(s.A=[]→s.J≠ []∧s.K≠ [])∧(s.A≠ []→s.J=[]∧s.K=[])
def CS.pop (s:CS) (d:Int):CS:=if s.A.getLast?=some d then(if s.A.dropLast=[] then⟨[],[],s.A,s.V⟩ else⟨s.A.dropLast,s.V.dropLast,[],[]⟩) else s
def CS.push (s:CS) (d v:Int):CS:=if v≠s.V.getLast?.getD 0∧d≤292194 then⟨s.A++[d],s.V++[v],[],[]⟩ else s
def CS.add (s:CS) (d v:Int):CS:=(s.pop d).push d v
theorem Br (s:CS) (d v:Int) (hb:s.A.length≤5000) (hI:s.ok):(s.add d v).ok∧(s.add d v).A.length≤s.A.length+1∧
 aC Tryz.prog 206 [(0,⟨320,[.osl 1 1 0 s.A.length,.osl 2 1 0 s.V.length]⟩),(1,⟨3,aa ak (s.A++s.J)⟩),(2,⟨3,aa ak (s.V++s.K)⟩)] [int d,int v,.ptr 0 0] (.tup []) [(0,some ⟨320,[.osl 3 1 0 (s.add d v).A.length,.osl 4 1 0 (s.add d v).V.length]⟩),(1,none),(2,none),(3,some ⟨3,aa ak ((s.add d v).A++(s.add d v).J)⟩),(4,some ⟨3,aa ak ((s.add d v).V++(s.add d v).K)⟩)]:=by
 obtain⟨A,V,g,k⟩:=s
 obtain⟨hl,h0,h1⟩:=hI
 simp only at hl h0 h1 hb
 rcases List.eq_nil_or_concat A with rfl|⟨p,x,rfl⟩
 ·obtain⟨hg,hk⟩:=h0 rfl
  have hV:V=[]:=List.length_eq_zero_iff.1 hl.symm
  subst hV
  by_cases hp:v≠0∧d≤292194
  ·rw[show CS.add ⟨[],[],g,k⟩ d v=⟨[d],[v],[],[]⟩ by simp[CS.add,CS.pop,CS.push,hp.1,hp.2]]
   exact⟨⟨rfl,by simp,by simp⟩,by simp,by simpa using VF g k d v hg hk hp⟩
  ·rw[show CS.add ⟨[],[],g,k⟩ d v=⟨[],[],g,k⟩ by simp only[CS.add,CS.pop,CS.push];simp;intro a;omega]
   exact⟨⟨rfl,fun _=>⟨hg,hk⟩,by simp⟩,by simp,by simpa using VG g k d v hg hk hp⟩
 ·obtain⟨rfl,rfl⟩:=h1 ai
  rw[List.concat_eq_append] at hl hb ⊢
  rcases List.eq_nil_or_concat V with rfl|⟨q,y,rfl⟩
  ·simp at hl
  rw[List.concat_eq_append] at hl ⊢
  have hl':p.length=q.length:=by simpa using hl
  have hb':p.length≤5000:=by simp at hb;omega
  by_cases hx:x=d
  ·subst hx
   rcases List.eq_nil_or_concat p with rfl|⟨r,z,rfl⟩
   ·have hq:q=[]:=List.length_eq_zero_iff.1 hl'.symm
    subst hq
    by_cases hp:v≠0∧x≤292194
    ·rw[show CS.add ⟨[]++[x],[]++[y],[],[]⟩ x v=⟨[x],[v],[],[]⟩ by simp[CS.add,CS.pop,CS.push,hp.1,hp.2]]
     exact⟨⟨rfl,by simp,by simp⟩,by simp,by simpa[aa,ak] using VK y x v hp⟩
    ·rw[show CS.add ⟨[]++[x],[]++[y],[],[]⟩ x v=⟨[],[],[x],[y]⟩ by simp only[CS.add,CS.pop,CS.push];simp;intro a;omega]
     exact⟨⟨rfl,by simp,by simp⟩,by simp,by simpa[aa,ak] using VJ y x v hp⟩
   ·rw[List.concat_eq_append] at hl' hb' ⊢
    rcases List.eq_nil_or_concat q with rfl|⟨s,u,rfl⟩
    ·simp at hl'
    rw[List.concat_eq_append] at hl' ⊢
    have hr:r.length=s.length:=by simpa using hl'
    have hb2:r.length≤5000:=by simp at hb';omega
    by_cases hp:v≠u∧x≤292194
    ·rw[show CS.add ⟨r++[z]++[x],s++[u]++[y],[],[]⟩ x v=⟨r++[z,x],s++[u,v],[],[]⟩ by simp[CS.add,CS.pop,CS.push,hp.1,hp.2]]
     exact⟨⟨by simp[hr],by simp,by simp⟩,by simp,by simpa using VL r s z u y x v hr hb2 hp⟩
    ·rw[show CS.add ⟨r++[z]++[x],s++[u]++[y],[],[]⟩ x v=⟨r++[z],s++[u],[],[]⟩ by simp only[CS.add,CS.pop,CS.push];simp;intro a;omega]
     exact⟨⟨by simp[hr],by simp,by simp⟩,by simp,by simpa using VM r s z u y x v hr hb2 hp⟩
  ·by_cases hp:v≠y∧d≤292194
   ·rw[show CS.add ⟨p++[x],q++[y],[],[]⟩ d v=⟨p++[x,d],q++[y,v],[],[]⟩ by simp[CS.add,CS.pop,CS.push,hp.1,hp.2,hx]]
    exact⟨⟨by simp[hl'],by simp,by simp⟩,by simp,by simpa using VH p q x y d v hl' hb' hx hp⟩
   ·rw[show CS.add ⟨p++[x],q++[y],[],[]⟩ d v=⟨p++[x],q++[y],[],[]⟩ by simp only[CS.add,CS.pop,CS.push];simp[hx];intro a;omega]
    exact⟨⟨by simp[hl'],by simp,by simp⟩,by simp,by simpa using VI p q x y d v hl' hb' hx hp⟩
section
attribute [local go_sem] Option.toList_some Option.toList_none Int.reduceEq Int.reduceNe
theorem Lg {t:TypeId} {R:AV→AV→Prop} (l m:List Int):aH (some ⟨t,aa ak (l++m)⟩) R 1 0 l.length (l.map ak):=by
 have hl:=cz l
 have ha:aa ak (l++m)=aa ak l++aa ak m:=by simp[aa]
 refine⟨by simp only;rw[cz,List.length_append];omega,.inl ⟨?_,fun r hr y hy=> ?_⟩⟩
 ·simp only
  rw[List.drop_zero,ha,List.take_left' byOmega]
  rfl
 ·obtain⟨x,-,rfl⟩:=List.mem_map.1 hr
  simp[ak] at hy
  subst hy
  simp
def kN (e:Int):List Sl→Bool
 | []=>true
 |s::l=>decide (e≤s.from_)&&decide (s.from_<s.to_)&&decide (s.to_≤292195)&&decide (0≤s.yearly)&&decide (s.yearly≤4000000000000000000)&&kN s.to_ l
def qC (d v:Int):Option CS→Option CS
 |none=>if v≠0∧d≤292194 then some ⟨[d],[v],[],[]⟩ else none
 |some s=>some (s.add d v)
def oV:List Sl→Option CS→Option CS
 | [],o=>o
 |s::l,o=>oV l (qC s.to_ 0 (qC s.from_ s.yearly o))
def okO:Option CS→Nat→Prop
 |none,_=>True
 |some s,n=>s.ok∧s.A.length≤n
def oW:Option CS→List (Nat×Option Bx)
 |none=>[(2000,some ⟨320,[.v (.slice none 0 0),.v (.slice none 0 0)]⟩)]
 |some s=>[(2000,some ⟨320,[.osl 6001 1 0 s.A.length,.osl 6002 1 0 s.V.length]⟩),(6001,some ⟨3,aa ak (s.A++s.J)⟩),(6002,some ⟨3,aa ak (s.V++s.K)⟩)]
theorem VN (l:List Sl) (hl:l.length≤450) (hf:kN 1 l=true):Fun Tryz.prog 177 [cK l] (.agg (match oV l none with|none=>[ints [],ints []]|some s=>[ints s.A,ints s.V])):=by
 have hg:(2000<(l.length:Int))=False:=eF
 refine lq Tryz.func177 rfl (Nat.le_of_ble_eq_true rfl) fun cx hN hR hF hL=> ?_;apply dS;(case hA=>(simp only[go_sem,↓reduceIte];rfl))
 (refine aD ?_)
 refine' run tt (V.l1 ?_)
 (refine aD ?_)
 refine' run (I (@gt_iff_lt Int _) (I hg (decide_eq_false (of_eq_false hg)))) (V.l3 fun hq=> ?_)
 (refine aD ?_)
 refine' run tt (V.l1 ?_)
 (refine aD ?_)
 refine' run tt (V.l1 ?_)
 (refine aD ?_)
 refine' run tt (V.l1 ?_)
 (refine aD ?_)
 refine' run tt (V.l1 ?_)
 generalize hR:oV l none=R
 refine iD mixed (σ:={q:Nat×Int×Option CS // q.1≤l.length∧okO q.2.2 (2*q.1)∧kN q.2.1 (l.drop q.1)=true∧oV (l.drop q.1) q.2.2=R})
  (fun q=>⟨[(15,int q.1.1),(14,int l.length),(13,cK l),(5,int q.1.2.1),(4,.fn (.func 206) [] [.ptr 2000 0]),(2,.ptr 0 0),(3,.ptr 2000 0)],oW q.1.2.2++[(0,some ⟨320,[.v (.slice none 0 0),.v (.slice none 0 0)]⟩)],7000⟩) (fun q=>l.length-q.1.1) id ⟨(0,1,none),by simp,by simp[okO],by simpa using hf,by simpa using hR⟩ (by rw[hN];kernel_rfl) ?_ ?_
 ·simp only[go_sem,↓reduceIte,hF,oW]
  rfl
 ·rintro⟨⟨i,e,o⟩,h1,h2,h3,h4⟩
  simp only at h1 h2 h3 h4
  by_cases hi:i<l.length
  ·have hq:l[i]? =some l[i]:=List.getElem?_eq_getElem hi
   have e1:(l.map Sl.flat)[i]? =some (Sl.flat l[i]):=by rw[List.getElem?_map,hq];rfl
   have e5:=wS i
   have hk1:i<(l.map Sl.flat).length:=by simpa using hi
   rw[List.drop_eq_getElem_cons hi] at h3 h4
   rw[kN] at h3
   rw[oV] at h4
   generalize l[i]=x at *
   have kf:=VD x e
   simp only[Bool.and_eq_true,decide_eq_true_eq] at h3
   rw[show(decide (e≤x.from_)&&decide (x.from_<x.to_)&&decide (x.to_≤292195)&&decide (0≤x.yearly)&&decide (x.yearly≤4000000000000000000))=true by simp[h3]] at kf
   cases o with
   |none=>
    simp only[oW,List.cons_append,List.nil_append]
    simp only[qC] at h4
    by_cases hp:x.yearly≠0∧x.from_≤292194
    ·rw[if_pos hp] at h4
     have c1:=VE x.from_ x.yearly hp
     obtain⟨k2,k3,c2⟩:=Br ⟨[x.from_],[x.yearly],[],[]⟩ x.to_ 0 ai ⟨rfl,by simp,by simp⟩
     simp only[List.append_nil,List.length_singleton] at c2 k3
     simp only at h4
     generalize CS.add ⟨[x.from_],[x.yearly],[],[]⟩ x.to_ 0=s at *
     refine' aj (I e1 (I e5 hk1)) kf (lv (fun hq=>fun hq=>o4 fun K hK=> ?_) tt)
     (refine aB [2000,10048,10049] (c1) ?_)
     (revert K;refine bK ?_;refine' run tt (V.l4 fun K hK=> ?_))
     (refine aB [2000,10048,10049,11032,11033] (c2) ?_)
     (revert K;refine bK ?_;refine' run e5 (V.l1 ?_))
     refine⟨⟨(i+1,x.to_,some s),hi,⟨k2,by simp only;omega⟩,h3.2,h4⟩,gZ 6001 11032 6002 11033,?_,mS⟩
     simp only[go_sem,↓reduceIte,hF,oW]
    ·rw[if_neg hp] at h4
     simp only[qC] at h4
     have hp2:¬((0:Int)≠0∧x.to_≤292194):=by simp
     rw[if_neg hp2] at h4
     have c1:=Le x.from_ x.yearly hp
     have c2:=Le x.to_ 0 hp2
     refine' aj (I e1 (I e5 hk1)) kf (lv (fun hq=>fun hq=>o4 fun K hK=> ?_) tt)
     (refine aB [2000] (c1) ?_)
     (revert K;refine bK ?_;refine' run tt (V.l4 fun K hK=> ?_))
     (refine aB [2000] (c2) ?_)
     (revert K;refine bK ?_;refine' run e5 (V.l1 ?_))
     refine⟨⟨(i+1,x.to_,none),hi,trivial,h3.2,h4⟩,id,?_,mS⟩
     simp only[go_sem,↓reduceIte,hF,oW]
   |some s=>
    simp only[oW,List.cons_append,List.nil_append]
    simp only[qC] at h4
    have h2l:=h2.2
    obtain⟨k0,k1,c1⟩:=Br s x.from_ x.yearly byOmega h2.1
    generalize CS.add s x.from_ x.yearly=s1 at *
    obtain⟨k2,k3,c2⟩:=Br s1 x.to_ 0 byOmega k0
    generalize CS.add s1 x.to_ 0=s2 at *
    refine' aj (I e1 (I e5 hk1)) kf (lv (fun hq=>fun hq=>o4 fun K hK=> ?_) tt)
    (refine aB [2000,6001,6002,10048,10049] (c1) ?_)
    (revert K;refine bK ?_;refine' run tt (V.l4 fun K hK=> ?_))
    (refine aB [2000,10048,10049,11032,11033] (c2) ?_)
    (revert K;refine bK ?_;refine' run e5 (V.l1 ?_))
    refine⟨⟨(i+1,x.to_,some s2),hi,⟨k2,by simp only;omega⟩,h3.2,h4⟩,gZ 6001 11032 6002 11033,?_,mS⟩
    simp only[go_sem,↓reduceIte,hF,oW]
  ·obtain rfl:i=l.length:=byOmega
   rw[List.drop_length,oV] at h4
   subst h4
   cases o with
   |none=>
    simp only[oW,List.cons_append,List.nil_append]
    refine' run tt (V.l3 fun hq=> ?_)
    refine rP [] [(2,.ptr 0 0),(3,.ptr 2000 0)] [(2000,some ⟨320,[ints [],ints []]⟩),(0,some ⟨320,[.v (.slice none 0 0),.v (.slice none 0 0)]⟩)] rfl ?_ ?_ ?_
    ·simp only[go_sem,↓reduceIte]
     all_goals trivial
    ·simp only[go_sem,↓reduceIte]
    refine aL ?_
    exact run tt tt
   |some s=>
    simp only[oW,List.cons_append,List.nil_append]
    refine' run tt (V.l3 fun hq=> ?_)
    refine rP [6001,6002] [(2,.ptr 0 0),(3,.ptr 2000 0)] [(2000,some ⟨320,[ints s.A,ints s.V]⟩),(0,some ⟨320,[.v (.slice none 0 0),.v (.slice none 0 0)]⟩)] rfl ?_ ?_ ?_
    ·simp only[go_sem,↓reduceIte]
     all_goals trivial
    ·simp only[go_sem,↓reduceIte]
     exact⟨⟨bS (F:=ak) (fun _=>rfl) _,Lg _ _⟩,bS (F:=ak) (fun _=>rfl) _,Lg _ _⟩
    refine aL ?_
    exact run tt tt
end
section
attribute [local go_sem] Option.toList_some Option.toList_none
theorem Lh (a:Int):Fun Tryz.prog 254 [int a] (bool false):=by
 refine af Tryz.func254 fun cx hN hR hF hL=> ?_
 exact run tt tt
theorem VO (v:Int):Fun Tryz.prog 245 [int v] (bool (oz v)):=by
 refine af Tryz.func245 fun cx hN hR hF hL=> ?_
 refine' run tt (V.l1 ?_)
 all_goals rfl
def lM (a b:Int):Bool:=decide (1≤a)&&decide (a<b)&&decide (b≤292195)
theorem Bt (a b:Int):Fun Tryz.prog 233 [.agg [int a,int b]] (bool (lM a b)):=by
 refine af Tryz.func233 fun cx hN hR hF hL=> ?_
 refine' run tt (V.l1 ?_)
 all_goals rfl
def iY (a v:List Int):Bool:=decide (a.length=v.length)&&gM 0 0 (a.zip v)
theorem Li {a v:List Int} (h:a.length=v.length) {i:Nat} (hi:i<a.length):∃x y,a[i]? =some x∧v[i]? =some y∧(a.zip v)[i]? =some (x,y)∧(a.zip v).drop i=(x,y)::(a.zip v).drop (i+1):=by
 have hv:i<v.length:=byOmega
 have hz:i<(a.zip v).length:=by simp;omega
 refine⟨a[i],v[i],List.getElem?_eq_getElem hi,List.getElem?_eq_getElem hv,?_,?_⟩
 ·rw[List.getElem?_eq_getElem hz];simp
 ·rw[List.drop_eq_getElem_cons hz];simp
theorem Bu (a v:List Int):Fun Tryz.prog 232 [.agg [ints a,ints v]] (bool (iY a v)):=by
 by_cases h:a.length=v.length
 ·refine af Tryz.func232 fun cx hN hR hF hL=> ?_
  have hl:a.length≤9223372036854775807:=by
   simp[maxLen] at hL
   omega
  have hc:((a.length:Int)=(v.length:Int))=True:=by simp[h]
  refine' run hc (V.l3 fun hq=> ?_)
  refine aX (σ:={p:Nat×Int×Int // p.1≤a.length∧gM 0 0 (a.zip v)=gM p.2.1 p.2.2 ((a.zip v).drop p.1)}) (fun s=>⟨[(18,int s.1.1),(3,int s.1.2.1),(4,int s.1.2.2),(1,.ptr 0 0),(16,ints a),(17,int a.length)],[(0,some ⟨320,[ints a,ints v]⟩)],3000⟩) (fun s=>a.length-s.1.1) id ⟨(0,0,0),Nat.zero_le _,rfl⟩ ?_ ?_
  ·simp only[go_sem,↓reduceIte,hF]
   rfl
  ·rintro⟨⟨i,d,w⟩,h1,h2⟩
   simp only at h1 h2
   by_cases hi:i<a.length
   ·obtain⟨x,y,e1,e2,-,e4⟩:=Li h hi
    have hiv:i<v.length:=byOmega
    have e3:=wS i
    rw[e4,gM] at h2
    refine' aj (I e1 (I e2 (I e3 hiv))) VO (lv (fun hq=>fun hq=>lf ?_) (lv (fun hq=>fun hq=>lf ?_) tt))
    ·symm
     rw[iY,h2]
     simp only[Bool.and_eq_false_iff,decide_eq_false_iff_not]
     grind
    ·refine⟨⟨(i+1,x,y),by show i+1≤_;omega,?_⟩,id,?_,mS⟩
     ·rw[h2];simp[hq]
     ·simp only[go_sem,↓reduceIte,hF]
   ·have:(a.zip v).drop i=[]:=List.drop_eq_nil_of_le (by simp;omega)
    rw[this] at h2
    refine' run tt (V.l3 fun hq=> ?_)
    simp[iY,h,h2,gM]
 ·have hc:((a.length:Int)=(v.length:Int))=False:=by simp;omega
  refine af Tryz.func232 fun cx hN hR hF hL=> ?_
  refine' run hc (V.l3 fun hq=> ?_)
  simp[iY,h]
def cu (l:List Int) (x:Int):Nat:=(l.takeWhile fun y=>decide (y<x)).length
theorem VP {l:List Int} {x:Int} {i:Nat} (hi:i≤l.length) (h1:∀k y,k<i→l[k]? =some y→y<x) (h2:∀y,l[i]? =some y→¬y<x):cu l x=i:=by
 induction l generalizing i with
 |nil=>simp at hi;subst hi;rfl
 |cons z l ih=>
  rcases i with _|i
  ·have:=h2 z rfl
   simp[cu,this]
  ·have hz:=h1 0 z byOmega rfl
   have:=ih (i:=i) (by simpa using hi) (fun k y hk hy=>h1 (k+1) y byOmega (by simpa using hy)) (fun y hy=>h2 y (by simpa using hy))
   unfold cu at this ⊢
   rw[List.takeWhile_cons,if_pos (by simpa using hz),List.length_cons,this]
theorem wrap_u64 {n:Int} (h1:0≤n) (h2:n≤18446744073709551615):IntKind.u64.wrap n=n:=by
 unfold IntKind.wrap
 simp[IntKind.bits,IntKind.signed]
 omega
theorem EW (l:List Int) (x:Int) (hs:l.Pairwise fun a b=>a<b) (hl:l.length≤100000):Fun Tryz.prog 251 [ints l,int x] (.tup [int (cu l x),bool (decide (l[cu l x]? =some x))]):=by
 have hget:=List.pairwise_iff_getElem.1 hs
 refine af Tryz.func251 fun cx hN hR hF hL=> ?_
 refine' run tt (V.l1 ?_)
 refine aX (σ:={p:Nat×Nat // p.1≤p.2∧p.2≤l.length∧(∀k y,k<p.1→l[k]? =some y→y<x)∧(∀k y,p.2≤k→l[k]? =some y→¬y<x)}) (fun s=>⟨[(7,int s.1.1),(8,int s.1.2),(0,ints l),(1,int x),(6,int l.length)],[],3000⟩) (fun s=>s.1.2-s.1.1) id ⟨(0,l.length),Nat.zero_le _,Nat.le_refl _,fun k y hk=>by omega,fun k y hk hy=>by have:=(List.getElem?_eq_some_iff.1 hy).1;simp only at hk;omega⟩ ?_ ?_
 ·simp only[go_sem,↓reduceIte,hF]
  rfl
 ·rintro⟨⟨i,j⟩,h1,h2,h3,h4⟩
  simp only at h1 h2 h3 h4
  by_cases hij:i<j
  ·have hm:(i+j)/2<l.length:=byOmega
   have e1:l[(i+j)/2]? =some l[(i+j)/2]:=List.getElem?_eq_getElem hm
   have w1:IntKind.i64.wrap ((i:Int)+j)=((i+j:Nat):Int):=wE
   have w2:IntKind.u64.wrap ((i+j:Nat):Int)=((i+j:Nat):Int):=wrap_u64 byOmega byOmega
   have w3:Int.fdiv ((i+j:Nat):Int) 2=(((i+j)/2:Nat):Int):=by rw[Int.fdiv_eq_ediv_of_nonneg _ byOmega];omega
   have w4:IntKind.i64.wrap (((i+j)/2:Nat):Int)=(((i+j)/2:Nat):Int):=wE
   have w5:IntKind.i64.wrap ((((i+j)/2:Nat):Int)+1)=(((i+j)/2+1:Nat):Int):=wE
   have hgt:∀k y,l[k]? =some y→(k<(i+j)/2→y<l[(i+j)/2])∧((i+j)/2<k→l[(i+j)/2]<y):=fun k y hk=>by
    obtain⟨hk1,rfl⟩:=List.getElem?_eq_some_iff.1 hk
    exact⟨fun h=>hget k _ hk1 hm h,fun h=>hget _ k hm hk1 h⟩
   generalize l[(i+j)/2]=z at *
   refine' aj (I w1 (I w2 (I w3 (I w4 (I w5 e1))))) JE (lv (fun hq=>fun hq=>lf ?_) (lv (fun hq=>fun hq=>lf ?_) tt))
   ·refine⟨⟨((i+j)/2+1,j),by show(i+j)/2+1≤j;omega,h2,fun k y hk hy=> ?_,h4⟩,id,?_,mS⟩
    ·have hk:k<(i+j)/2+1:=hk
     by_cases he:k=(i+j)/2
     ·subst he;rw[e1] at hy;cases hy;exact hq
     ·have:=(hgt k y hy).1 byOmega;omega
    ·simp only[go_sem,↓reduceIte,hF]
   ·refine⟨⟨(i,(i+j)/2),by show i≤(i+j)/2;omega,by show(i+j)/2≤_;omega,h3,fun k y hk hy=> ?_⟩,id,?_,mS⟩
    ·have hk:(i+j)/2≤k:=hk
     by_cases he:k=(i+j)/2
     ·subst he;rw[e1] at hy;cases hy;omega
     ·have:=(hgt k y hy).2 byOmega;omega
    ·simp only[go_sem,↓reduceIte,hF]
  ·have:i=j:=byOmega
   subst this
   have hlow:=VP h2 h3 fun y hy=>h4 i y (Nat.le_refl _) hy
   by_cases hi:i<l.length
   ·have e1:l[i]? =some l[i]:=List.getElem?_eq_getElem hi
    generalize l[i]=z at *
    have c1:decide ((i:Int)<(l.length:Int))=true:=by simp;omega
    refine' aj (I e1 (I c1 hlow)) Lh (V.l3 fun hq=> ?_)
    simp
   ·have c1:decide ((i:Int)<(l.length:Int))=false:=by simp;omega
    have e1:l[i]? =none:=List.getElem?_eq_none byOmega
    exact aj (I c1 (I e1 hlow)) Lh tt
theorem Lj (l:List Int) (x:Int):cu l x≤l.length∧(∀k y,k<cu l x→l[k]? =some y→y<x)∧∀y,l[cu l x]? =some y→¬y<x:=by
 induction l with
 |nil=>simp[cu]
 |cons z l ih=>
  obtain⟨h1,h2,h3⟩:=ih
  by_cases hz:z<x
  ·have:cu (z::l) x=cu l x+1:=by simp[cu,hz]
   rw[this]
   refine⟨by simpa using h1,fun k y hk hy=> ?_,fun y hy=>h3 y (by simpa using hy)⟩
   rcases k with _|k
   ·simp at hy;subst hy;exact hz
   ·exact h2 k y byOmega (by simpa using hy)
  ·have:cu (z::l) x=0:=by simp[cu,hz]
   rw[this]
   exact⟨Nat.zero_le _,fun k y hk=>by omega,fun y hy=>by simp at hy;subst hy;exact hz⟩
theorem zip_fst {a v:List Int} (h:a.length=v.length):(a.zip v).map Prod.fst=a:=by
 rw[List.map_fst_zip];omega
theorem Ll {a v:List Int} (h:a.length=v.length) (hr:gM 0 0 (a.zip v)=true):a.Pairwise fun x y=>x<y:=by
 have:=rR hr
 have h2:=this.map (S:=fun x y:Int=>x<y) Prod.fst (fun _ _ h=>h)
 rwa [zip_fst h] at h2
theorem Lm {a v:List Int} {p:Int×Int} (hp:p∈a.zip v):∃k:Nat,a[k]? =some p.1∧v[k]? =some p.2:=by
 obtain⟨k,hk,e⟩:=List.getElem_of_mem hp
 rw[List.length_zip] at hk
 refine⟨k,?_,?_⟩
 ·rw[List.getElem?_eq_getElem byOmega,←e];simp
 ·rw[List.getElem?_eq_getElem byOmega,←e];simp
theorem Lp {a v:List Int} {k:Nat} {x y:Int} (h1:a[k]? =some x) (h2:v[k]? =some y):(x,y)∈a.zip v:=by
 obtain⟨g1,rfl⟩:=List.getElem?_eq_some_iff.1 h1
 obtain⟨g2,rfl⟩:=List.getElem?_eq_some_iff.1 h2
 have hk:k<(a.zip v).length:=by rw[List.length_zip];omega
 have:=List.getElem_mem hk
 rwa [List.getElem_zip] at this
theorem VQ {a v:List Int} (h:a.length=v.length) (hr:gM 0 0 (a.zip v)=true) (x:Int):
 (∀y,a[cu a x]? =some x→v[cu a x]? =some y→bH 0 (a.zip v) x=y)∧(a[cu a x]? ≠some x→(cu a x=0→bH 0 (a.zip v) x=0)∧∀m y,cu a x=m+1→v[m]? =some y→bH 0 (a.zip v) x=y):=by
 obtain⟨s1,s2,s3⟩:=Lj a x
 have hlt:=Ll h hr
 have hget:=List.pairwise_iff_getElem.1 hlt
 refine⟨fun y h1 h2=>zT (rR hr) (x,y) (Lp h1 h2),fun hn=> ?_⟩
 have hgt:∀k y,cu a x≤k→a[k]? =some y→x<y:=fun k y hk hy=>by
  obtain⟨hk1,hky⟩:=List.getElem?_eq_some_iff.1 hy
  have h0:cu a x<a.length:=byOmega
  have e0:a[cu a x]? =some a[cu a x]:=List.getElem?_eq_getElem h0
  have h1:=s3 _ e0
  have h2:a[cu a x]≠x:=fun e=>hn (by rw[e0,e])
  by_cases he:k=cu a x
  ·subst he;omega
  ·have:=hget (cu a x) k h0 hk1 byOmega;omega
 refine⟨fun h0=>zS _ _ _ fun p hp=> ?_,fun m y hm hy=> ?_⟩
 ·obtain⟨k,hk1,-⟩:=Lm hp
  exact hgt k _ byOmega hk1
 ·have hml:m<a.length:=byOmega
  have e1:a[m]? =some a[m]:=List.getElem?_eq_getElem hml
  have h1:=s2 m _ byOmega e1
  rw[←Jm (a.zip v) 0 a[m] x byOmega fun p hp=> ?_]
  ·exact zT (rR hr) (a[m],y) (Lp e1 hy)
  ·obtain⟨k,hk1,-⟩:=Lm hp
   rintro⟨g1,g2⟩
   obtain⟨hk2,hk3⟩:=List.getElem?_eq_some_iff.1 hk1
   by_cases hkm:k≤m
   ·by_cases he:k=m
    ·subst he;omega
    ·have:=hget k m hk2 hml byOmega;omega
   ·have:=hgt k _ byOmega hk1;omega
theorem VR (a v:List Int) (x:Int) (h:a.length=v.length) (hr:gM 0 0 (a.zip v)=true) (hl:a.length≤100000):Fun Tryz.prog 247 [.agg [ints a,ints v],int x] (int (bH 0 (a.zip v) x)):=by
 obtain⟨k1,k2⟩:=VQ h hr x
 obtain⟨s1,-,-⟩:=Lj a x
 have hlt:=Ll h hr
 by_cases hc:a[cu a x]? =some x
 ·have hi:cu a x<v.length:=by rw[←h];exact(List.getElem?_eq_some_iff.1 hc).1
  have e1:v[cu a x]? =some v[cu a x]:=List.getElem?_eq_getElem hi
  have e2:=k1 _ hc e1
  rw[e2]
  have c1:decide ((cu a x:Int)<0)=false:=by simp
  have c2:decide (a[cu a x]? =some x)=true:=decide_eq_true hc
  refine af Tryz.func247 fun cx hN hR hF hL=> ?_
  (repeat' first|focus ((try(revert K;refine bK ?_));refine' run (I c1 (I c2 e1)) ?_;(repeat' first|exact tt|apply lv|(apply oK;intro K hK)|intro hq);all_goals apply lf)|refine mQ Di (EW _ _ hlt hl) ?_)
 ·obtain⟨k3,k4⟩:=k2 hc
  have c2:decide (a[cu a x]? =some x)=false:=decide_eq_false hc
  rcases hm:cu a x with _|m
  ·rw[k3 hm]
   have c1:decide (IntKind.i64.wrap ((0:Nat)-1:Int)<0)=true:=rfl
   have c3:(a[0]? =some x)=False:=by rw[hm] at hc;simpa using hc
   refine af Tryz.func247 fun cx hN hR hF hL=> ?_
   (repeat' first|focus ((try(revert K;refine bK ?_));refine' run (I c1 (I c3 hm)) ?_;(repeat' first|exact tt|apply lv|(apply oK;intro K hK)|intro hq);all_goals apply lf)|refine mQ Di (EW _ _ hlt hl) ?_)
  ·have hi:m<v.length:=byOmega
   have e1:v[m]? =some v[m]:=List.getElem?_eq_getElem hi
   rw[k4 m _ hm e1]
   have c1:IntKind.i64.wrap (((m+1:Nat):Int)-1)=(m:Int):=wE
   have c3:(a[m+1]? =some x)=False:=by rw[hm] at hc;simpa using hc
   have c4:decide ((m:Int)<0)=false:=by simp
   refine af Tryz.func247 fun cx hN hR hF hL=> ?_
   (repeat' first|focus ((try(revert K;refine bK ?_));refine' run (I c1 (I c3 (I c4 (I hm e1)))) ?_;(repeat' first|exact tt|apply lv|(apply oK;intro K hK)|intro hq);all_goals apply lf)|refine mQ Di (EW _ _ hlt hl) ?_)
end
section
open Go.RowKit Go.Shelf
attribute [local go_sem] Oper.semAt_some
def jr (q:Int×Int×Int):Array Value:= #[.agg #[.int .i64 q.1,.int .i64 q.2.1],.int .i64 q.2.2]
theorem VS {m m':Nat} {l:Nat} {args:Array Value} {W:World} {R:Ending→World→Prop} (h:YieldAt (aT none) m Tryz.prog l args W R):YieldAt (aT none) m' Tryz.prog l args W R:=by
 obtain⟨fn,tmps,assign,body,hy,hR⟩:=h
 exact⟨fn,tmps,assign,body,hy,Jk hR⟩
theorem Lr {M:Nat→Prop} {W:World} {u:Value} {x y:AV} (h:RepD M W u (.pp [x,y])):∃(g o:Nat) (X Y:Value),u= .pointer (some ⟨g,o,none⟩)∧¬M g∧g<W.heap.size∧W.cell? ⟨g,o,none⟩=some X∧W.cell? ⟨g,o+1,none⟩=some Y∧RepD M W X x∧RepD M W Y y:=by
 cases h with
 |pp z hM hg hl hx=>exact⟨_,_,z 0,z 1,rfl,hM,hg,(hl 0 ai).1,(hl 1 ai).1,hx 0 x rfl,hx 1 y rfl⟩
theorem Bv {M:Nat→Prop} {W:World} {u:Value} {n:Int} (h:RepD M W u (int n)):u= .int .i64 n:=by cases h;rfl
theorem VT {M:Nat→Prop} {W:World} {u:Value} {a:List Int} (h:RepD M W u (ints a)):∃(A:Option Addr) (cap:Nat),u= .slice A a.length cap∧(a≠ []→∃b o:Nat,A=some ⟨b,o,none⟩∧¬M b∧b<W.heap.size∧∀(i:Nat) (x:Int),a[i]? =some x→W.cell? ⟨b,o+i,none⟩=some (.int .i64 x)):=by
 cases h with
 |sl b o z hn hc hm hf hk hA hl hx=>
  refine⟨_,_,by rw[hn,List.length_map],fun hne=> ?_⟩
  obtain⟨h1,h2,h3⟩:=hA (by simpa using hne)
  refine⟨b,o,h1,h2,h3,fun i x hi=> ?_⟩
  have hil:i<(a.map ak).length:=by have:=(List.getElem?_eq_some_iff.1 hi).1;simpa using this
  obtain⟨c1,-⟩:=hl i 0 hil byOmega
  have c2:=hx i (ak x) 0 (int x) (by simp[hi]) rfl
  rw[Nat.mul_one,Nat.add_zero] at c1
  rw[c1,Bv c2]
theorem VU {M:Nat→Prop} {W:World} {S V:Value} {a v:List Int} (x:Int) (h:a.length=v.length) (hr:gM 0 0 (a.zip v)=true) (hl:a.length≤100000) (hM:∀g,M g→g<W.heap.size) (hS:RepD M W S (ints a)) (hV:RepD M W V (ints v)):
 Calls Tryz.prog 247 #[.agg #[S,V],.int .i64 x] W fun e w'=>e= .returned (.int .i64 (bH 0 (a.zip v) x))∧Below W.heap.size W w':=by
 refine(VR a v x h hr hl M W #[.agg #[S,V],.int .i64 x] hM rfl fun i u y hu hy=> ?_).mono ?_
 ·rcases i with _|_|i
  ·simp at hu hy;subst hu hy
   refine .agg rfl fun j p q hp hq=> ?_
   rcases j with _|_|j
   ·simp at hp hq;subst hp hq;exact hS
   ·simp at hp hq;subst hp hq;exact hV
   ·simp at hp
  ·simp at hu hy;subst hu hy;exact .v _
  ·simp at hu
 ·rintro e w' ⟨u,rfl,hu,hb⟩
  exact⟨by rw[Bv hu],hb⟩
theorem VV (r:Option Nat):(aT r).round=r:=rfl
theorem VW (r:Option Nat) (f:FuncId):(aT r).fn f=True:=rfl
theorem VX (r:Option Nat):(aT r).depth=none:=rfl
attribute [local go_sem] VV VW VX
set_option maxHeartbeats 2000000 in
theorem VY (n:Nat) (a v:List Int) (s t:Int) (h:a.length=v.length) (hr:gM 0 0 (a.zip v)=true) (hl:a.length≤1000)
 (l gs os gf of cap:Nat) (A:Option Addr) (F1:Value) (J:Nat→World→Prop) (Jx:World→Prop) (W:World)
 (hc:∀k wr,J k wr→wr.cell? ⟨gs,os,none⟩=some (.int .i64 s)∧wr.cell? ⟨gs,os+1,none⟩=some (.int .i64 t)∧wr.cell? ⟨gf,of,none⟩=some (.slice A a.length cap)∧wr.cell? ⟨gf,of+1,none⟩=some F1)
 (hdr:∀k wr,J k wr→J k wr.drew)
 (hA:a≠ []→∃b o,A=some ⟨b,o,none⟩∧∀k wr,J k wr→∀(i:Nat) (x:Int),a[i]? =some x→wr.cell? ⟨b,o+i,none⟩=some (.int .i64 x))
 (hval:∀k wr (x:Int) m,J k wr→CallsIn (aT none) m Tryz.prog 247 #[.agg #[.slice A a.length cap,F1],.int .i64 x] wr fun e w'=>e= .returned (.int .i64 (bH 0 (a.zip v) x))∧J k w')
 (hY:∀k W1 x m,J k W1→((pieces (a.zip v) s t).map jr)[k]? =some x→YieldAt (aT none) m Tryz.prog l x W1 fun e W'=>(e= .returned (.bool true)∧J (k+1) W')∨(e= .returned (.bool false)∧Jx W')) (h0:J 0 W):
 CallsIn (aT none) n Tryz.prog 246 #[.func (.yield l) #[] #[],.pointer (some ⟨gs,os,none⟩),.pointer (some ⟨gf,of,none⟩)] W fun e W'=>(∃v,e= .returned v)∧(J ((pieces (a.zip v) s t).map jr).length W'∨Jx W'):=by
 refine callsIn_of_wp Tryz.func246 rfl trivial ?_ rfl
 simp only[Tryz.ntmps246,List.size_toArray,List.length_cons,List.length_nil,Nat.reduceAdd,Nat.reduceSub,Array.replicate_succ,Array.replicate_zero,List.push_toArray,List.append_toArray,List.nil_append,List.cons_append]
 have Hh:=Lib.hid h
 clear h
 obtain⟨c1,c2,c3,c4⟩:=hc 0 W h0
 gi_wp2
 gi_loopw [4,12] (fun x y wr=>∃(i k:Nat) (from_:Int),x= .int .i64 from_∧y= .int .i64 i∧i≤a.length∧J k wr∧(pieces (a.zip v) s t).drop k=lC t from_ (bH 0 (a.zip v) from_) ((a.zip v).drop i)) (fun _ y _=>a.length-(intOf y).toNat)
 case atStart=>
  exact⟨0,0,s,rfl,rfl,Nat.zero_le _,h0,rfl⟩
 case round=>
  obtain⟨i,k,from_,rfl,rfl,hi,hj,hp⟩:=hrel
  obtain⟨d1,d2,d3,d4⟩:=hc k wr hj
  have hlk:(pieces (a.zip v) s t).drop k≠ []→(((pieces (a.zip v) s t).map jr)[k]? =(((pieces (a.zip v) s t).drop k).head?).map jr):=fun _=>by
   rw[List.getElem?_map,List.head?_drop]
  by_cases hi2:i<a.length
  ·obtain⟨x,y,e1,e2,e3,e4⟩:=Li Hh.out hi2
   obtain⟨b,o,rfl,hcell⟩:=hA (by intro e;rw[e] at hi2;simp at hi2)
   have hce:=hcell k wr hj i x e1
   have hmem:(x,y)∈a.zip v:=List.mem_of_getElem? e3
   have hvx:bH 0 (a.zip v) x=y:=zT (rR hr) (x,y) hmem
   rw[e4,lC] at hp
   have hw:IntKind.i64.wrap ((i:Int)+1)=((i+1:Nat):Int):=by rw[fq]<;>omega
   by_cases hx:from_<x∧x<t
   ·rw[if_pos hx] at hp
    have hk:((pieces (a.zip v) s t).map jr)[k]? =some (jr (from_,x,bH 0 (a.zip v) from_)):=by
     rw[hlk (by rw[hp];simp),hp];rfl
    have hp2:(pieces (a.zip v) s t).drop (k+1)=lC t x (bH 0 (a.zip v) x) ((a.zip v).drop (i+1)):=by
     rw[←List.drop_drop,hp,hvx];rfl
    have Hp2:=Lib.hid hp2
    clear hp hp2 hlk e4 e3 hmem hvx
    have hx1:=hx.1
    have hx2:=hx.2
    gi_wp2_with (gi_at_call 247;refine(hval k wr from_ _ hj).mono ?_;rintro e w2 ⟨rfl,hj2⟩;obtain⟨fn,tmps,assign,body,hy,hR⟩:=hY k w2 _ (n-1) hj2 hk;dsimp only[jr] at hy)
    refine hR.mono ?_
    rintro e W3 (⟨rfl,hJ3⟩|⟨rfl,hJx3⟩)
    ·gi_wp2
     go_roundw
     case rel=>exact⟨i+1,k+1,x,rfl,ai,by omega,hJ3,Hp2.out⟩
     case measure=>simp[intOf];omega
    ·gi_wp2
     refine bodyPost_ret (results_none rfl _ _ _) rfl ?_
     exact⟨⟨_,rfl⟩,.inr hJx3⟩
   ·rw[if_neg hx] at hp
    have Hp:=Lib.hid hp
    clear hp hlk e4 e3 hmem hvx
    rcases(by omega:x≤from_∨(from_<x∧t≤x)) with hq|⟨hq,hq2⟩
    ·gi_wp2
     go_roundw
     case rel=>exact⟨i+1,k,from_,rfl,ai,by omega,hj,Hp.out⟩
     case measure=>simp[intOf];omega
    ·gi_wp2
     go_roundw
     case rel=>exact⟨i+1,k,from_,rfl,ai,by omega,hj,Hp.out⟩
     case measure=>simp[intOf];omega
  ·have hi3:i=a.length:=byOmega
   subst hi3
   have hdz:(a.zip v).drop a.length=[]:=List.drop_eq_nil_of_le (by rw[List.length_zip];have:=Hh.out;omega)
   rw[hdz,lC] at hp
   have hk:((pieces (a.zip v) s t).map jr)[k]? =some (jr (from_,t,bH 0 (a.zip v) from_)):=by
    rw[hlk (by rw[hp];simp),hp];rfl
   have hlen:((pieces (a.zip v) s t).map jr).length=k+1:=by
    have h1:=congrArg List.length hp
    rw[List.length_drop] at h1
    simp at h1 ⊢
    omega
   clear hp hlk
   have hj':=hdr k wr hj
   have Hlen:=Lib.hid hlen
   clear hlen
   have hw':∀w2,J k w2→∃fn tmps assign body,(Instr.yield l #[.agg #[.int .i64 from_,.int .i64 t],.int .i64 (bH 0 (a.zip v) from_)]).run Tryz.prog w2= .ok (.round l fn tmps assign body) w2∧RoundIn (aT none) (n-1) Tryz.prog l fn tmps assign body w2 fun e W'=>∃u,e= .returned u∧(J (k+1) W'∨Jx W'):=fun w2 hj2=>by
    obtain⟨fn,tmps,assign,body,hy,hR⟩:=hY k w2 _ (n-1) hj2 hk
    refine⟨fn,tmps,assign,body,hy,hR.mono ?_⟩
    rintro e W3 (⟨rfl,hJ3⟩|⟨rfl,hJx3⟩)
    ·exact⟨_,rfl,.inl hJ3⟩
    ·exact⟨_,rfl,.inr hJx3⟩
   gi_wp2
   gi_region_with (first
    |(gi_at_call 247;refine(hval k wr.drew from_ _ hj').mono ?_;rintro e w2 ⟨rfl,hj2⟩;obtain⟨f1,f2,f3,f4⟩:=hc k w2 hj2;obtain⟨fn,tmps,assign,body,hy,hR⟩:=hw' w2 hj2)
    |(refine hR.mono ?_;rintro e W3 ⟨u,rfl,hq3⟩))
   all_goals(go_end0;exact⟨⟨_,rfl⟩,by rw[Hlen.out];exact hq3⟩)
theorem VZ (a v:List Int) (s t:Int) (h:a.length=v.length) (hr:gM 0 0 (a.zip v)=true) (hl:a.length≤1000):Iter Tryz.prog 246 [.pp [int s,int t],.pp [ints a,ints v]] ((pieces (a.zip v) s t).map jr):=by
 intro lb l J Jx W M hlb hM hrep hJ hJx hK hY h0
 obtain⟨u0,u1,rfl⟩:∃u0 u1,lb= #[u0,u1]:=by
  obtain⟨L⟩:=lb
  rcases L with _|⟨u0,_|⟨u1,_|⟨u2,L⟩⟩⟩<;>simp at hlb
  exact⟨u0,u1,rfl⟩
 obtain⟨gs,os,S0,S1,rfl,ms,zs,cs0,cs1,rs0,rs1⟩:=Lr (hrep 0 u0 _ rfl rfl)
 obtain⟨gf,of,F0,F1,rfl,mf,zf,cf0,cf1,rf0,rf1⟩:=Lr (hrep 1 u1 _ rfl rfl)
 obtain rfl:=Bv rs0
 obtain rfl:=Bv rs1
 obtain⟨A,cap,rfl,hA⟩:=VT rf0
 have hc:∀ {k:Nat} {wr:World},J k wr→∀g j,g<W.heap.size→¬M g→wr.cell? ⟨g,j,none⟩=W.cell? ⟨g,j,none⟩:=fun hj g j hg hn=>World.cell?_of_block ((hK _ _ hj).2 g hg hn)
 refine VY 8 a v s t h hr hl l gs os gf of cap A F1 J Jx W (fun k wr hj=>⟨(hc hj _ _ zs ms).trans cs0,(hc hj _ _ zs ms).trans cs1,(hc hj _ _ zf mf).trans cf0,(hc hj _ _ zf mf).trans cf1⟩) (fun k wr hj=>hJ k wr _ hj ((Below.refl _ wr).drew)) (fun hne=> ?_) (fun k wr x m hj=> ?_) (fun k W1 x m hj hx=>VS (hY k W1 x hj hx)) h0
 ·obtain⟨b,o,e1,e2,e3,e4⟩:=hA hne
  exact⟨b,o,e1,fun k wr hj i x hx=>(hc hj _ _ e3 e2).trans (e4 i x hx)⟩
 ·have hM':∀g,M g→g<wr.heap.size:=fun g hg=>Nat.lt_of_lt_of_le (hM g hg) (hK _ _ hj).1
  have k1:=RepD.keep (M':=M) (fun _ _ h=>h) (hK _ _ hj).1 (hK _ _ hj).2 rf0
  have k2:=RepD.keep (M':=M) (fun _ _ h=>h) (hK _ _ hj).1 (hK _ _ hj).2 rf1
  refine qV.2 ((VU x h hr byOmega hM' k1 k2).mono ?_)
  rintro e w' ⟨rfl,hb⟩
  exact⟨rfl,hJ k wr w' hj hb⟩
end
section
attribute [local go_sem] Option.toList_some Option.toList_none
theorem V3 (a v:List Int) (s t:Int):Fun Tryz.prog 234 [.agg [ints a,ints v],.agg [int s,int t]] (.fn (.func 246) [] [.pp [int s,int t],.pp [ints a,ints v]]):=by
 refine af Tryz.func234 fun cx hN hR hF hL=> ?_
 exact run tt tt
def Bw (q:Int×Int×Int):List AV:=[.agg [int q.1,int q.2.1],int q.2.2]
theorem V4 {P:List (Int×Int×Int)} (k:Nat) (x:Array Value) (y:List AV) (hx:(P.map jr)[k]? =some x) (hy:(P.map Bw)[k]? =some y):x.size=y.length∧x.size= #[23,24].size∧∀(i:Nat) (v:Value) (a:AV),x[i]? =some v→y[i]? =some a→∀ι M w,RepA ι M w v a:=by
 rw[List.getElem?_map] at hx hy
 cases hq:P[k]? with
 |none=>rw[hq] at hx;cases hx
 |some q=>
  rw[hq] at hx hy
  cases hx;cases hy
  refine⟨rfl,rfl,fun i v a hv ha ι M w=> ?_⟩
  rcases i with _|_|i
  ·simp[jr,Bw] at hv ha
   subst hv ha
   refine .d (.agg rfl fun j u z hu hz=> ?_)
   rcases j with _|_|j
   ·simp at hu hz;subst hu hz;exact .v _
   ·simp at hu hz;subst hu hz;exact .v _
   ·simp at hu
  ·simp[jr,Bw] at hv ha
   subst hv ha
   exact .d (.v _)
  ·simp[jr] at hv
theorem Ls {h:Int→Int} {b:Int}:∀(k:Nat) (P:List (Int×Int×Int)) (a:Int),uB h b a P→∃a',a≤a'∧uB h b a' (P.drop k)
 |0,P,a,hc=>⟨a,Int.le_refl _,hc⟩
 |k+1,[],a,hc=>⟨a,Int.le_refl _,by simpa using hc⟩
 |k+1,q::P,a,hc=>by
  obtain⟨c1,c2,c3,c4,c5⟩:=hc
  obtain⟨a',h1,h2⟩:=Ls k P q.2.1 c5
  exact⟨a',by omega,by simpa using h2⟩
theorem V5 {f:dJ} {s t:Int} (hf:gM 0 0 f=true) (hst:s<t) (hs1:1≤s) (ht:t≤292195) {k:Nat} {q:Int×Int×Int} (hq:(pieces f s t)[k]? =some q):
 s≤q.1∧q.1<q.2.1∧q.2.1≤t∧bH 0 f q.1=q.2.2∧ -4000000000000000000≤q.2.2∧q.2.2≤4000000000000000000:=by
 obtain⟨a',h1,h2⟩:=Ls k _ s (Jq (rR hf) hst)
 have hk:=(List.getElem?_eq_some_iff.1 hq).1
 rw[List.drop_eq_getElem_cons hk,(List.getElem?_eq_some_iff.1 hq).2] at h2
 obtain⟨c1,c2,c3,c4,-⟩:=h2
 have hv:=c4 q.1 byOmega byOmega
 have hm:=Jn f 0 q.1 rfl fun p hp=>(D7 hf p hp).2.2
 rw[SK,hv] at hm
 exact⟨by omega,by omega,by omega,hv,hm.1,hm.2⟩
theorem V6 (v:Int):max v (-v)=bT v:=by unfold bT;split<;>omega
def u7:Option Int→List AV
 |some n=>[int n,int 0]
 |none=>[int 0,int 5]
theorem V7 (a v:List Int) (s t:Int) (hf:(iY a v&&lM s t)=false):Fun Tryz.prog 208 [.agg [ints a,ints v],.agg [int s,int t]] (.tup [int 0,int 1]):=by
 have hf':(!iY a v|| !lM s t)=true:=by rw[←Bool.not_and,hf];rfl
 refine af Tryz.func208 fun cx hN hR hF hL=> ?_
 exact aj hf' (I Bu Bt) tt
theorem V8 (a v:List Int) (s t:Int) (hr:iY a v=true) (hfu:lM s t=true) (hl:a.length≤1000):Fun Tryz.prog 208 [.agg [ints a,ints v],.agg [int s,int t]] (.tup (u7 (oC (a.zip v) s t))):=by
 have hr2:=hr
 simp only[iY,Bool.and_eq_true,decide_eq_true_eq] at hr2
 obtain⟨h,hr2⟩:=hr2
 have hit:=VZ a v s t h hr2 hl
 refine lq Tryz.func208 rfl (Nat.le_of_ble_eq_true rfl) fun cx hN hR hF hL=> ?_;apply dS;(case hA=>(simp only[go_sem,↓reduceIte];rfl))
 (refine aD ?_)
 refine' aj (I hr hfu) (I Bu Bt) (V.l1 ?_)
 (refine aD ?_)
 refine' aj (I hr hfu) (I Bu Bt) (V.l3 fun hq=> ?_)
 (refine aD ?_)
 refine' aj (I hr hfu) (I Bu Bt) (V.l1 ?_)
 refine eX ?_
 (refine aD ?_)
 refine' aj tt V3 (V.l1 ?_)
 refine DR ?_
 simp only[lM,Bool.and_eq_true,decide_eq_true_eq] at hfu
 have hpa:=fun k q=>V5 (k:=k) (q:=q) hr2 hfu.1.2 hfu.1.1 hfu.2
 have hsl:oC (a.zip v) s t=mV 0 0 (pieces (a.zip v) s t):=rfl
 generalize pieces (a.zip v) s t=P at *
 rw[hsl]
 refine SI mixed hR 2009 [(22,.fn (.func 246) [] [.pp [int s,int t],.pp [ints a,ints v]]),(7,.ptr 2008 0),(6,.ptr 2000 0),(5,.ptr 24 0),(4,.ptr 16 0)]
  (fun q:{q:Nat×Int×Int // q.1≤P.length∧mV 0 0 P=mV q.2.1 q.2.2 (P.drop q.1)∧0≤q.2.2∧q.2.2≤4000000000000000000∧ -q.2.2≤q.2.1∧q.2.1≤q.2.2}=>([(2008,some ⟨3,[int q.1.2.2]⟩),(2000,some ⟨3,[int q.1.2.1]⟩),(24,some ⟨37,[int 0]⟩),(16,some ⟨3,[int 0]⟩)],2009)) (fun q=>q.1.1) id ⟨(0,0,0),Nat.zero_le _,rfl,by simp,by simp,by simp,by simp⟩
  (P.map Bw) hit Qa ?_ rfl (fun b g h=>by rw[hF] at h;cases h) (by simp[go_sem]) rfl ai ai V4 (by rw[hN];kernel_rfl) (by rw[hN];kernel_rfl) (by rw[hN];kernel_rfl) ?_ ?_
 ·simp only[go_sem,↓reduceIte,hF]
 ·rintro⟨⟨k,S,T⟩,h1,h2,h3,h4,h5,h6⟩ y hy cx1 hN1 hF1
  simp only at h1 h2 h3 h4 h5 h6 hy
  rw[List.getElem?_map] at hy
  obtain⟨q,hq,rfl⟩:=Option.map_eq_some_iff.1 hy
  obtain⟨p1,p2,p3,p4,p5,p6⟩:=hpa k q hq
  show W _ _ _ _ ⟨(24,int q.2.2)::(23,.agg [int q.1,int q.2.1])::_,_,_⟩
  refine' run tt (V.l1 ?_)
  intro cx2 hN2 hF2
  have hk:=(List.getElem?_eq_some_iff.1 hq).1
  rw[List.drop_eq_getElem_cons hk,(List.getElem?_eq_some_iff.1 hq).2,mV] at h2
  have w1:IntKind.i64.wrap (q.2.1-q.1)=q.2.1-q.1:=wE
  have w2:IntKind.i64.wrap (0-q.2.2)= -q.2.2:=wE
  have hn0:(q.2.1-q.1=0)=False:=eF
  have w5:(4000000000000000000-T).tdiv (q.2.1-q.1)=(4000000000000000000-T)/(q.2.1-q.1):=Int.tdiv_eq_ediv_of_nonneg byOmega
  have w6:IntKind.i64.wrap ((4000000000000000000-T)/(q.2.1-q.1))=(4000000000000000000-T)/(q.2.1-q.1):=by
   have g1:0≤(4000000000000000000-T)/(q.2.1-q.1):=Int.ediv_nonneg byOmega byOmega
   have g2:(4000000000000000000-T)/(q.2.1-q.1)≤4000000000000000000-T:=Int.ediv_le_self _ byOmega
   rw[fq]<;>omega
  have w3:IntKind.i64.wrap (4000000000000000000-T)=4000000000000000000-T:=wE
  have hn1:1≤q.2.1-q.1:=byOmega
  refine' run (I w1 (I w2 (I w3 (I hn0 (I w5 (I w6 V6)))))) (lv (fun hq=>lf ?_) (V.l3 fun hq=> ?_))
  ·rw[if_pos ‹_›] at h2
   show jb _ _ _ .ret ⟨_,_,_⟩
   simp only[h2,u7]
   exact run tt tt
  ·rw[if_neg byOmega] at h2
   generalize hnd:q.2.1-q.1=n at *
   have hb:n*bT q.2.2≤4000000000000000000-T:=by
    have g1:bT q.2.2≤(4000000000000000000-T)/n:=byOmega
    have g2:n*bT q.2.2≤n*((4000000000000000000-T)/n):=Int.mul_le_mul_of_nonneg_left g1 byOmega
    have g3:=Int.mul_ediv_self_le (x:=4000000000000000000-T) (k:=n) byOmega
    omega
   have hi:0≤bT q.2.2∧q.2.2≤bT q.2.2∧ -bT q.2.2≤q.2.2:=by unfold bT;split<;>omega
   have hb0:0≤n*bT q.2.2:=Int.mul_nonneg byOmega hi.1
   have hb1:n*q.2.2≤n*bT q.2.2:=Int.mul_le_mul_of_nonneg_left hi.2.1 byOmega
   have hb2: -(n*bT q.2.2)≤n*q.2.2:=by
    have:=Int.mul_le_mul_of_nonneg_left hi.2.2 (show 0≤n by omega)
    rwa [Int.mul_neg] at this
   generalize hA:n*bT q.2.2=nA at *
   generalize hV:n*q.2.2=nV at *
   refine⟨⟨(k+1,S+nV,T+nA),hk,h2,?_,?_,?_,?_⟩,id,rfl,?_⟩
   ·show 0≤T+nA;omega
   ·show T+nA≤_;omega
   ·show -(T+nA)≤S+nV;omega
   ·show S+nV≤T+nA;omega
   have w8:IntKind.i64.wrap nV=nV:=wE
   have w9:IntKind.i64.wrap nA=nA:=wE
   have w10:IntKind.i64.wrap (S+nV)=S+nV:=wE
   have w11:IntKind.i64.wrap (T+nA)=T+nA:=wE
   simp only[w8,w9,w10,w11]
   simp only[go_sem,↓reduceIte,hF,hF2]
   exact hF2
 ·rintro⟨⟨k,S,T⟩,h1,h2,h3,h4,h5,h6⟩ hk
  simp only at h1 h2 h3 h4 h5 h6 hk
  have hd:P.drop k=[]:=List.drop_eq_nil_of_le (by simp at hk;omega)
  have h2':mV 0 0 P=some S:=by rw[h2,hd];rfl
  simp only[h2',u7]
  refine aL ?_
  exact run tt tt
theorem Lt (a v:List Int) (s t:Int) (hl:a.length≤1000):Fun Tryz.prog 208 [.agg [ints a,ints v],.agg [int s,int t]] (.tup (if iY a v=true∧lM s t=true then u7 (oC (a.zip v) s t) else[int 0,int 1])):=by
 by_cases h:iY a v=true∧lM s t=true
 ·rw[if_pos h];exact V8 a v s t h.1 h.2 hl
 ·rw[if_neg h]
  refine V7 a v s t ?_
  cases h1:iY a v<;>cases h2:lM s t<;>simp_all
end
end Go.Proofs.YtlikpcpllahalaaGreat.V
