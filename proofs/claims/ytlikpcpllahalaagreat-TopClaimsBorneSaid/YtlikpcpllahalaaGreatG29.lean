/- Parts of the proof. -/
import Derived.Test.YtlikpcpllahalaaGreatG27
import Derived.Test.YtlikpcpllahalaaGreatG28
import Derived.Test.YtlikpcpllahalaaGreatG13
import Derived.Test.YtlikpcpllahalaaGreatG20
import Derived.Test.YtlikpcpllahalaaGreatG16
import Derived.Test.YtlikpcpllahalaaGreatG17
import Derived.RangeFuncNested
import Derived.RangeFuncBound
import Derived.RangeFuncCalls
import Derived.RangeFuncLeaves
import Derived.Shelf.Abstract
import Derived.Shelf.RegionOpen
import Derived.WalkKit
import Derived.OwnWalkIn
import Derived.TacticsInMore
import Derived.LoopNIn
import Derived.LoopIn
import Derived.Stop.RegionWithIn
set_option maxHeartbeats 16000000
set_option linter.unusedSimpArgs false
set_option linter.unusedVariables false
namespace Go.Proofs.YtlikpcpllahalaaGreat.V
open Go.RowKit
set_option maxRecDepth 100000
section
attribute [local go_sem] Option.toList_some Option.toList_none
theorem KE {a b c:Int} (ha:0≤a) (hb:0≤b) (hc:0<c):0≤l7 a b c∧l7 a b c≤4000000000000000000:=by
 have h1:=EC (a*b/c) (a*b%c) c
 have h2:0≤a*b/c:=Int.ediv_nonneg (Int.mul_nonneg ha hb) byOmega
 unfold l7 uR
 split<;>omega
def jl (m:Int):List Int→Int×Int
 | []=>(m,0)
 |x::l=>if l8 m x 10000=0 then jl (l7 m x 10000) l else(0,l8 m x 10000)
theorem KF:∀(l:List Int) (m:Int),0≤m→m≤4000000000000000000→(∀x,x∈l→0≤x)→0≤(jl m l).1∧(jl m l).1≤4000000000000000000
 | [],m,h0,h1,_=>⟨h0,h1⟩
 |x::l,m,h0,h1,hx=>by
  rw[jl]
  split
  ·have:=KE (c:=10000) h0 (hx x ai) byOmega
   exact KF l _ this.1 this.2 fun y hy=>hx y (by simp[hy])
  ·exact⟨Int.le_refl _,by show(0:Int)≤_;omega⟩
def l9 (v:Version) (rk ra rz:Int) (c:Cover):List Int:=[([v.b0,v.b1,v.b2,v.b3][rk.toNat]?).getD 0,jU ra v.age,(v.zone[rz.toNat]?).getD 0,(v.peril[c.peril.toNat]?).getD 0,c.share]
def gu (v:Version) (rk rv ra rz:Int) (c:Cover):Int×Int:=
 if(v.okB&&lG rk rv ra rz&&c.right)=false then(0,1) else if(v.zone.length:Int)≤rz then(0,7)
 else if(jl rv (l9 v rk ra rz c)).2=0 then(max (jl rv (l9 v rk ra rz c)).1 v.min,0) else(0,(jl rv (l9 v rk ra rz c)).2)
theorem KG {age:Int}:∀ {l:List Band} {last:Int},l6 last l=true→0≤jU age l∧jU age l≤100000
 | [],_,_=>by simp[jU]
 |b::l,last,h=>by
  rw[l6,Bool.and_eq_true] at h
  rw[jU]
  split
  ·exact KG h.2
  ·have:=h.1
   simp[xW] at this
   omega
theorem KH {c:Cover} (h:c.right=true):0≤c.peril∧c.peril<8∧1≤c.share∧c.share≤10000:=by
 simp[Cover.right,zW] at h
 omega
theorem KI {v:Version} {rk rv ra rz:Int} {c:Cover} (h1:v.okB=true) (h2:lG rk rv ra rz=true) (h3:c.right=true):∀x,x∈l9 v rk ra rz c→0≤x∧x≤100000:=by
 rw[Ex] at h1
 obtain⟨a1,a2,⟨a3,a4,a5,a6⟩,a7,a8,a9⟩:=h1
 have hr:=KH h3
 have hbz:∀ {l:List Int} (i:Nat),l.all gq=true→0≤(l[i]?).getD 0∧(l[i]?).getD 0≤100000:=by
  intro l i hl
  rcases he:l[i]? with _|y
  ·simp
  ·have:=Ew.1 (List.all_eq_true.1 hl y (List.mem_of_getElem? he))
   simpa using this
 have hb0:[v.b0,v.b1,v.b2,v.b3].all gq=true:=by
  simp only[List.all_cons,List.all_nil,Bool.and_true,Bool.and_eq_true,Ew]
  omega
 have hb:l6 (-1) v.age=true:=by rw[uQ,Bool.and_eq_true] at a9;exact a9.1
 intro x hx
 simp only[l9,List.mem_cons,List.not_mem_nil,or_false] at hx
 rcases hx with rfl|rfl|rfl|rfl|rfl
 ·exact hbz _ hb0
 ·exact KG hb
 ·exact hbz _ a7
 ·exact hbz _ a8
 ·omega
theorem UM (v:Version) (rk ra rz:Int) (c:Cover):(l9 v rk ra rz c).length=5:=rfl
theorem UN (v:Version) (rk rv ra rz:Int) (c:Cover):Fun Tryz.prog 188 [.agg v.flat,.agg [int rk,int rv,int ra,int rz],.agg c.flat] (.tup [int (gu v rk rv ra rz c).1,int (gu v rk rv ra rz c).2]):=by
 by_cases hok:(v.okB&&lG rk rv ra rz&&c.right)=true
 ·simp only[Bool.and_eq_true] at hok
  obtain⟨⟨o1,o2⟩,o3⟩:=hok
  have hr:=KH o3
  have hf:=KI o1 o2 o3
  have hz:=Ex.1 o1
  have hk:0≤rk∧rk<4∧1≤rv∧rv≤1000000000000000∧0≤rz:=by simp[lG] at o2;omega
  by_cases hzz:(v.zone.length:Int)≤rz
  ·have e:gu v rk rv ra rz c=(0,7):=by rw[gu,if_neg (by simp[o1,o2,o3]),if_pos hzz]
   rw[e]
   refine af Tryz.func188 fun cx hN hR hF hL=> ?_
   refine' run tt (l1 ?_)
   refine DL (aL ?_)
   exact aj (I o1 (I o2 (I o3 (I (eq_true hzz) (decide_eq_true hzz))))) (I (Ey v) (I xI (zX c))) tt
  ·have e:gu v rk rv ra rz c=if(jl rv (l9 v rk ra rz c)).2=0 then(max (jl rv (l9 v rk ra rz c)).1 v.min,0) else(0,(jl rv (l9 v rk ra rz c)).2):=by rw[gu,if_neg (by simp[o1,o2,o3]),if_neg hzz]
   rw[e]
   have z1:v.zone[rz.toNat]? =some ((v.zone[rz.toNat]?).getD 0):=by rw[List.getElem?_eq_getElem byOmega];rfl
   have z2:v.peril[c.peril.toNat]? =some ((v.peril[c.peril.toNat]?).getD 0):=by rw[List.getElem?_eq_getElem byOmega];rfl
   have hL:=UM v rk ra rz c
   unfold l9 at *
   generalize (v.zone[rz.toNat]?).getD 0=z at *
   generalize (v.peril[c.peril.toNat]?).getD 0=p at *
   have b1:0≤rz:=byOmega
   have b2:rz<(v.zone.length:Int):=byOmega
   have b3:0≤c.peril:=byOmega
   have b4:c.peril<(v.peril.length:Int):=byOmega
   have kb:=Uw v.age ra
   have hB:[int v.from_,int v.b0,int v.b1,int v.b2,int v.b3,.sl false 2 (v.age.map Band.flat),ints v.zone,ints v.peril,int v.min][1+rk.toNat]? =some (int (([v.b0,v.b1,v.b2,v.b3][rk.toNat]?).getD 0)):=by
    have h4:rk=0∨rk=1∨rk=2∨rk=3:=byOmega
    rcases h4 with rfl|rfl|rfl|rfl<;>rfl
   generalize ([v.b0,v.b1,v.b2,v.b3][rk.toNat]?).getD 0=b at *
   generalize hbr:jU ra v.age=br at *
   have b5:0≤rk:=byOmega
   have b6:rk<4:=byOmega
   refine af Tryz.func188 fun cx hN hR hF hL=> ?_
   refine' run tt (l1 ?_)
   refine DL (aL ?_)
   refine' aj (I o1 (I o2 (I o3 (I (eq_false hzz) (I (decide_eq_false hzz) (I z1 (I z2 hB))))))) (I (Ey v) (I xI (I (zX c) kb))) (lv (fun hq=>fun hq=>lf ?_) tt)
   refine aX (σ:={s:Nat×Int // s.1≤5∧0≤s.2∧s.2≤4000000000000000000∧jl rv [b,br,z,p,c.share]=jl s.2 ([b,br,z,p,c.share].drop s.1)}) (fun s=>⟨[(60,int s.1.1),(8,int s.1.2),(9,int 0),(59,.agg [int b,int br,int z,int p,int c.share]),(3,.ptr 0 0),(6,int 0),(7,int 0)],[(0,some ⟨246,v.flat⟩)],5000⟩) (fun s=>5-s.1.1) id ⟨(0,rv),by omega,by show 0≤rv;omega,by show rv≤_;omega,rfl⟩ ?_ ?_
   ·simp only[go_sem,↓reduceIte,hF]
    rfl
   ·rintro⟨⟨i,m⟩,h1,h2,h3,h4⟩
    simp only at h1 h2 h3 h4 ⊢
    rw[h4]
    by_cases hi:i<5
    ·have hiL:i<[b,br,z,p,c.share].length:=hi
     have e0:[int b,int br,int z,int p,int c.share]=[b,br,z,p,c.share].map fun n=>int n:=rfl
     have e1:[int b,int br,int z,int p,int c.share][i]? =some (int ([b,br,z,p,c.share][i]'hiL)):=by rw[e0,List.getElem?_map,List.getElem?_eq_getElem hiL];rfl
     have e2:=wS i
     have hx:=hf _ (List.getElem_mem hiL)
     rw[List.drop_eq_getElem_cons hiL] at h4 ⊢
     generalize [b,br,z,p,c.share][i]'hiL=x at *
     have k:=KD m x h2 byOmega hx.1 byOmega
     have hv:=KE (c:=10000) h2 hx.1 byOmega
     rw[show ∀l,jl m (x::l)=if l8 m x 10000=0 then jl (l7 m x 10000) l else(0,l8 m x 10000) from fun _=>rfl] at h4 ⊢
     by_cases hE:l8 m x 10000=0
     ·rw[if_pos hE] at h4 ⊢
      refine' aj (I e1 (I e2 hE)) k (lv (fun hq=>fun hq=>lf ?_) tt)
      refine⟨⟨(i+1,l7 m x 10000),by show i+1≤5;omega,hv.1,hv.2,rfl⟩,id,?_,mS⟩
      simp only[go_sem,↓reduceIte,hF]
     ·rw[if_neg hE,if_neg hE]
      exact aj (I e1 (I e2 (I (eq_false hE) (decide_eq_false hE)))) k tt
    ·obtain rfl:i=5:=byOmega
     have e5:[b,br,z,p,c.share].drop 5=[]:=rfl
     rw[e5,jl,if_pos rfl]
     exact run tt tt
 ·have hok:(v.okB&&lG rk rv ra rz&&c.right)=false:=by simpa using hok
  have e:gu v rk rv ra rz c=(0,1):=by rw[gu,if_pos hok]
  rw[e]
  have h':(!v.okB|| !lG rk rv ra rz|| !c.right)=true:=by revert hok;simp;grind
  refine af Tryz.func188 fun cx hN hR hF hL=> ?_
  refine' run tt (l1 ?_)
  refine DL (aL ?_)
  exact aj h' (I (Ey v) (I xI (zX c))) tt
theorem KJ (v:Version) (rk rv ra rz:Int) (c:Cover):0≤(gu v rk rv ra rz c).1∧(gu v rk rv ra rz c).1≤4000000000000000000:=by
 unfold gu
 split
 ·exact⟨by simp,by simp⟩
 ·rename_i h
  simp only[Bool.not_eq_false,Bool.and_eq_true] at h
  split
  ·exact⟨by simp,by simp⟩
  ·have hb:=KF (l9 v rk ra rz c) rv (by have:=h.1.2;simp[lG] at this;omega) (by have:=h.1.2;simp[lG] at this;omega) fun x hx=>(KI h.1.1 h.1.2 h.2 x hx).1
   have hm:=Ex.1 h.1.1
   split
   ·show 0≤max _ _∧max _ _≤_
    omega
   ·exact⟨by simp,by simp⟩
end
section
attribute [local go_sem] Option.toList_some Option.toList_none
def mg (v:Version) (rk rv ra rz:Int) (n:Int) (fits:Bool):List Cover→Int×Int
 | []=>if fits then(n,0) else(0,5)
 |c::l=>if(gu v rk rv ra rz c).2=0 then(if fits∧¬4000000000000000000-n<(gu v rk rv ra rz c).1 then mg v rk rv ra rz (n+(gu v rk rv ra rz c).1) true l else mg v rk rv ra rz (if fits then 0 else n) false l) else(0,(gu v rk rv ra rz c).2)
def oL (v:Version) (rk rv ra rz:Int) (l:List Cover):Int×Int:=mg v rk rv ra rz 0 true l
theorem UO:aC Tryz.prog 187 [] [] (.fn (.func 222) [] [.ptr 0 0]) [(0,some ⟨3,[int 0]⟩)]:=by
 refine fu 0 Tryz.func187 rfl (Nat.le_of_ble_eq_true rfl) (by simp[go_sem]) fun cx hN hR hF hL=> ?_;apply fw;(case hA=>(simp only[go_sem,↓reduceIte];rfl));(case hB=>(simp only[go_sem,↓reduceIte];rfl))
 refine iM (aL ?_)
 refine' run tt (l1 ?_)
 refine⟨gZ 0 1000 0 1000,⟨[(0,.fn (.func 222) [] [.ptr 0 0])],[(0,some ⟨3,[int 0]⟩)],1⟩,?_,?_⟩
 ·simp only[go_sem,↓reduceIte,hF]
  exact fun b g h=>by have:=hF b g h;simp[inl] at this
 ·exact run tt tt
theorem UQ (n m:Int) (h0:0≤n) (h1:n≤4000000000000000000) (hm:0≤m) (hm2:m≤4000000000000000000) (h:¬4000000000000000000-n<m):aC Tryz.prog 222 [(0,⟨3,[int n]⟩)] [int m,.ptr 0 0] (.tup [int (n+m),bool true]) [(0,some ⟨3,[int (n+m)]⟩)]:=by
 have e3:IntKind.i64.wrap (4000000000000000000-n)=4000000000000000000-n:=fq byOmega byOmega
 have e4:IntKind.i64.wrap (n+m)=n+m:=fq byOmega byOmega
 refine aW 1 Tryz.func222 (fun cx hN hR hF hL=> ?_)
 exact run (I e3 (I e4 (I (eq_false h) (decide_eq_false h)))) tt
theorem UR (n m:Int) (h0:0≤n) (h1:n≤4000000000000000000) (hm:0≤m) (hm2:m≤4000000000000000000) (h:4000000000000000000-n<m):aC Tryz.prog 222 [(0,⟨3,[int n]⟩)] [int m,.ptr 0 0] (.tup [int 0,bool false]) []:=by
 have e3:IntKind.i64.wrap (4000000000000000000-n)=4000000000000000000-n:=fq byOmega byOmega
 refine aW 1 Tryz.func222 (fun cx hN hR hF hL=> ?_)
 exact run (I e3 (I (eq_true h) (decide_eq_true h))) tt
theorem KL (v:Version) (rk rv ra rz n:Int) (b:Bool) (c:Cover) (l:List Cover):mg v rk rv ra rz n b (c::l)=if(gu v rk rv ra rz c).2=0 then(if b∧¬4000000000000000000-n<(gu v rk rv ra rz c).1 then mg v rk rv ra rz (n+(gu v rk rv ra rz c).1) true l else mg v rk rv ra rz (if b then 0 else n) false l) else(0,(gu v rk rv ra rz c).2):=rfl
theorem UT (v:Version) (rk rv ra rz:Int) (l:List Cover) (f:Bool) (hl:l.length≤100000):Fun Tryz.prog 148 [.agg v.flat,.agg [int rk,int rv,int ra,int rz],.sl f 5 (l.map Cover.flat)] (.tup [int (oL v rk rv ra rz l).1,int (oL v rk rv ra rz l).2]):=by
 refine af Tryz.func148 fun cx hN hR hF hL=> ?_
 refine' run tt (l4 fun K hK=> ?_)
 (refine aB [1000] (UO) ?_)
 (revert K;refine bK ?_;refine' run tt (l1 ?_))
 refine aX (σ:={s:Nat×Int×Int×Bool // s.1≤l.length∧0≤s.2.2.1∧s.2.2.1≤4000000000000000000∧(s.2.2.2=true→s.2.1=s.2.2.1)∧oL v rk rv ra rz l=mg v rk rv ra rz s.2.1 s.2.2.2 (l.drop s.1)}) (fun s=>⟨[(10,bool s.1.2.2.2),(18,int s.1.1),(9,int s.1.2.1),(8,.fn (.func 222) [] [.ptr 1000 0]),(3,.ptr 0 0),(4,.ptr 8 0),(16,.sl f 5 (l.map Cover.flat)),(17,int l.length),(6,int 0),(7,int 0)],[(0,some ⟨246,v.flat⟩),(8,some ⟨101,[int rk,int rv,int ra,int rz]⟩),(1000,some ⟨3,[int s.1.2.2.1]⟩)],3000⟩) (fun s=>l.length-s.1.1) id ⟨(0,0,0,true),Nat.zero_le _,by simp,by simp,fun _=>rfl,rfl⟩ ?_ ?_
 ·simp only[go_sem,↓reduceIte,hF]
  all_goals rfl
 ·rintro⟨⟨i,n,m,b⟩,h1,h2,h3,h4,h5⟩
  simp only at h1 h2 h3 h4 h5 ⊢
  rw[h5]
  by_cases hi:i<l.length
  ·have e1:(l.map Cover.flat)[i]? =some (l[i].flat):=by rw[List.getElem?_map,List.getElem?_eq_getElem hi];rfl
   have e2:=wS i
   rw[List.drop_eq_getElem_cons hi] at h5 ⊢
   generalize l[i]=c at *
   rw[KL] at h5 ⊢
   have k:=UN v rk rv ra rz c
   have hb:=KJ v rk rv ra rz c
   generalize gu v rk rv ra rz c=o at *
   by_cases ho:o.2=0
   ·rw[if_pos ho] at h5 ⊢
    cases b with
    |false=>
     simp only[Bool.false_eq_true,false_and,if_false] at h5 ⊢
     refine' aj (I e1 (I e2 ho)) k (lv (fun hq=>fun hq=>fun hq=>lf ?_) tt)
     refine⟨⟨(i+1,n,m,false),hi,h2,h3,by simp,by simp⟩,id,?_,mS⟩
     simp only[go_sem,↓reduceIte,hF]
    |true=>
     obtain rfl:=h4 rfl
     simp only[true_and,if_true] at h5 ⊢
     by_cases hov:4000000000000000000-n<o.1
     ·rw[if_neg (by simpa using hov)] at h5 ⊢
      refine' aj (I e1 (I e2 ho)) k (lv (fun hq=>fun hq=>fun hq=>o4 fun K hK=> ?_) tt)
      (refine aB [1000] (UR n o.1 h2 h3 hb.1 hb.2 hov) ?_)
      (revert K;refine bK ?_;refine' aj (I e1 (I e2 ho)) k (l1 ?_))
      refine⟨⟨(i+1,0,n,false),hi,h2,h3,by simp,by simp⟩,id,?_,mS⟩
      simp only[go_sem,↓reduceIte,hF]
     ·rw[if_pos hov] at h5 ⊢
      refine' aj (I e1 (I e2 ho)) k (lv (fun hq=>fun hq=>fun hq=>o4 fun K hK=> ?_) tt)
      (refine aB [1000] (UQ n o.1 h2 h3 hb.1 hb.2 hov) ?_)
      (revert K;refine bK ?_;refine' aj (I e1 (I e2 ho)) k (l1 ?_))
      refine⟨⟨(i+1,n+o.1,n+o.1,true),hi,by show 0≤n+o.1;omega,by show n+o.1≤_;omega,fun _=>rfl,by simp;exact fun h=>absurd h hov⟩,id,?_,mS⟩
      simp only[go_sem,↓reduceIte,hF]
   ·rw[if_neg ho]
    exact aj (I e1 (I e2 (I (eq_false ho) (decide_eq_false ho)))) k tt
  ·obtain rfl:i=l.length:=byOmega
   rw[List.drop_length]
   cases b<;>simp only[mg,if_true,if_false,Bool.false_eq_true]
   ·exact run tt tt
   ·exact run tt tt
end
section
attribute [local go_sem] Option.toList_some Option.toList_none
end
section
attribute [local go_sem] Option.toList_some Option.toList_none
theorem KM (l:List Int) (f:Bool) (hl:l.length≤100000):Fun Tryz.prog 220 [.sl f 1 (l.map ak)] (ints l):=by
 refine af Tryz.func220 fun cx hN hR hF hL=> ?_
 refine' run tt (l2 ?_ (l4 fun K hK=> ?_))
 ·exact⟨bS (F:=ak) (fun _=>rfl) _,dR (F:=ak) (k:=1) (fun _=>rfl) (fun _=>by simp[ak]) _ rfl⟩
 ·simp[maxLen];omega
theorem UU (l:List Band) (f:Bool) (hl:l.length≤100000):Fun Tryz.prog 219 [.sl f 2 (l.map Band.flat)] (.sl false 2 (l.map Band.flat)):=by
 refine af Tryz.func219 fun cx hN hR hF hL=> ?_
 refine' run tt (l2 ?_ (l4 fun K hK=> ?_))
 ·exact⟨bS (F:=Band.flat) (fun _=>rfl) _,dR (F:=Band.flat) (k:=2) (fun _=>rfl) (fun _=>by simp[Band.flat]) _ rfl⟩
 ·simp[maxLen];omega
theorem UV (v:Version) (ha:v.age.length≤100000) (hz:v.zone.length≤100000) (hp:v.peril.length≤100000):Fun Tryz.prog 183 [.agg v.flat] (.agg v.flat):=by
 have k1:=UU v.age false ha
 have k2:=KM v.zone false hz
 have k3:=KM v.peril false hp
 refine af Tryz.func183 fun cx hN hR hF hL=> ?_
 exact aj tt (I k1 (I k2 k3)) tt
def nD (l:List Version) (d:Int):Option Version:=(l.reverse.find? fun v=>decide (v.from_≤d))
def xZ:Option Version→AV
 |some v=> .tup [.agg v.flat,int 0]
 |none=> .tup [.agg [int 0,int 0,int 0,int 0,int 0,.v (.slice none 0 0),.v (.slice none 0 0),.v (.slice none 0 0),int 0],int 7]
attribute [local go_sem] xZ
theorem UW (l:List Version) (v:Version) (d:Int):nD (l++[v]) d=if v.from_≤d then some v else nD l d:=by
 rw[nD,List.reverse_append,List.reverse_singleton,List.singleton_append,List.find?_cons]
 by_cases h:v.from_≤d
 ·rw[decide_eq_true h,if_pos h]
 ·rw[decide_eq_false h,if_neg h,nD]
theorem yc {α:Type} {l:List α} {j:Nat} (hj:j<l.length):l.take (j+1)=l.take j++[l[j]]:=by rw[List.take_add_one,List.getElem?_eq_getElem hj];rfl
end
section
attribute [local go_sem] Option.toList_some Option.toList_none
end
section
attribute [local go_sem] Option.toList_some Option.toList_none
theorem KN {box:ay} {b n:Nat} {t:TypeId} {L:List Int} (d:Nat) (h:ah box b=some ⟨t,aa ak L⟩) (hn:n=L.length):fz box (d+1) (.osl b 1 0 n) (ints L):=by
 rw[uq,h]
 exact⟨⟨rfl,rfl,by omega,by simp[hn],bS (F:=ak) (fun _=>rfl) L⟩,dR (F:=ak) (k:=1) (fun _=>rfl) (fun _=>by simp[ak]) L hn⟩
end
section
attribute [local go_sem] Option.toList_some Option.toList_none
theorem KO {v:Int} (h1: -9223372036854775808≤v) (h2:v≤9223372036854775807):IntKind.i64.wrap v=v:=by
 unfold IntKind.wrap
 simp[IntKind.signed,IntKind.bits]
 omega
def has (a b:Int):Bool:=decide (1≤a)&&decide (a<b)&&decide (b≤292195)
theorem uS {a b:Int}:has a b=true↔1≤a∧a<b∧b≤292195:=by simp[has,and_assoc]
def cA (a b c d:Int):Int:=if(has a b&&has c d&&has (max a c) (min b d))=true then max a c else 0
def cB (a b c d:Int):Int:=if(has a b&&has c d&&has (max a c) (min b d))=true then min b d else 0
end

section
theorem KP (h:History):nC h (iR h)=aG jT h.changes:=by
 have e:nC h (iR h)=((iR h).map fun x=>h.changes[x.toNat]?).filterMap id:=by rw[nC,List.filterMap_map];rfl
 rw[e,Us,List.filterMap_map]
 simp
def oM (h:History) (b:Int):History:=⟨h.id,h.booked,h.terms,h.changes.filter fun c=>decide (c.booked≤b)⟩
def qp (h:History) (d:Int):St:=jP (rT h.terms) (aG jT h.changes) d
theorem UX (h:History) (d:Int):qp h d=(aG jT (h.changes.filter fun c=>decide (c.day≤d))).foldl jk (rT h.terms):=by
 rw[qp,jP,Kk Ko]
theorem UY {a b d:Int}:fM a b d=true↔has a b=true∧a≤d∧d<b:=by
 rw[uS]
 simp only[fM,mZ,ng,p9,Bool.and_eq_true,decide_eq_true_eq,Bool.not_eq_true',decide_eq_false_iff_not]
 split<;>omega
theorem AZ {t:Terms} (h:t.right=true):has t.from_ t.to_=true:=by
 simp only[Terms.right,Bool.and_eq_true,Em,jQ,mZ,ng,p9,decide_eq_true_eq,Bool.not_eq_true',decide_eq_false_iff_not] at h
 rw[uS]
 obtain⟨⟨⟨h1,h2,h3⟩,h4⟩,h5⟩:=h
 split at h2<;>omega
theorem uT {h:History}:iO h=true↔h.terms.right=true∧(h.changes.length:Int)≤2000∧∀c,c∈h.changes→c.right=true∧fM h.terms.from_ h.terms.to_ c.day=true:=by
 simp only[iO,Bool.and_eq_true,decide_eq_true_eq,List.all_eq_true,rX,and_assoc]
theorem KQ (h:History):(aG jT h.changes).Pairwise fun c d=>c.day≤d.day:=
 (jR Ko h.changes).imp fun hl=>by simpa[jT] using hl
theorem KR {h:History} (hr:iO h=true):∀c,c∈aG jT h.changes→h.terms.from_≤c.day∧c.day<h.terms.to_:=fun c hc=>by
 have:=(UY.1 ((uT.1 hr).2.2 c (fO.1 hc)).2).2
 exact this
theorem A9 {h:History} (hr:iO h=true):ib (qp h) h.terms.from_ h.terms.to_ (il h):=by
 have hs:=uS.1 (AZ (uT.1 hr).1)
 rw[il,KP]
 exact Tu hs.2.1 (KQ h) (KR hr)
theorem UZ {h:History} (hr:iO h=true):il h=oD (qp h) [] h.terms.from_ (qp h h.terms.from_) ((aG jT h.changes).map Change.day) h.terms.to_:=by
 have hs:=uS.1 (AZ (uT.1 hr).1)
 rw[il,KP]
 exact Tt hs.2.1 (KQ h) (KR hr)
theorem U0 {h:History} (hr:iO h=true):il h≠ []:=by
 intro e
 have hs:=uS.1 (AZ (uT.1 hr).1)
 have:=A9 hr
 rw[e] at this
 have:h.terms.from_=h.terms.to_:=this
 omega
theorem ED {f:Int→St}:∀ {L:List Sl} {a b:Int},ib f a b L→∀s,s∈L→a≤s.from_∧s.from_<s.to_∧s.to_≤b∧s.yearly=0∧∀d,s.from_≤d→d<s.to_→f d=s.st
 | [],_,_,_,s,hs=>by simp at hs
 |u::L,a,b,h,s,hs=>by
  obtain⟨h1,h3,h4,h5,h6,h7⟩:=h
  have hle:=rU h6
  rcases List.mem_cons.1 hs with rfl|hs
  ·exact⟨by omega,by omega,hle,h4,fun d hd=>h5 d byOmega⟩
  ·obtain⟨g1,g2,g3,g4,g5⟩:=ED h6 s hs
   exact⟨by omega,g2,g3,g4,g5⟩
def uU (v:Version) (s:St):Int:=if s.on=true then(oL v s.rk s.rv s.ra s.rz s.covers).1 else 0
def qw (v:Version) (s:St):Int:=if s.on=true then(oL v s.rk s.rv s.ra s.rz s.covers).2 else 0
def iU (v:Version) (s:Sl):Sl:=⟨s.from_,s.to_,s.st,uU v s.st⟩
def nE (v:Version):List Sl→Int
 | []=>0
 |s::l=>if qw v s.st=0 then nE v l else qw v s.st
def gz (h:History) (vs:List Version):Int:=if iO h=true then(match nD vs h.terms.from_ with|some v=>nE v (il h)|none=>7) else 1
def gP (h:History) (vs:List Version):List Sl:=if gz h vs=0 then(match nD vs h.terms.from_ with|some v=>(il h).map (iU v)|none=>[]) else[]
theorem Bg {h:History} {vs:List Version} (he:gz h vs=0):iO h=true∧∃v,nD vs h.terms.from_=some v∧gP h vs=(il h).map (iU v):=by
 have h0:=he
 unfold gz at he
 split at he
 ·rename_i hr
  split at he
  ·rename_i v hv
   exact⟨hr,v,hv,by rw[gP,if_pos h0,hv]⟩
  ·exact absurd he (by decide)
 ·exact absurd he (by decide)
theorem yf {h:History} {vs:List Version} (he:gz h vs≠0):gP h vs=[]:=by rw[gP,if_neg he]
def KS (s:Sl):Sl:=⟨0,0,s.st,s.yearly⟩
def zO:Option Sl→Sl
 |some s=>KS s
 |none=>⟨0,0,⟨false,0,0,0,0,[]⟩,0⟩
section
variable {g k:History} {vs:List Version}
end
end
section
open Go.RowKit Go.Shelf
attribute [local go_sem] Oper.semAt_some
theorem KT {m m':Nat} {l:Nat} {args:Array Value} {W:World} {R:Ending→World→Prop} (h:YieldAt (aT none) m Tryz.prog l args W R):YieldAt (aT none) m' Tryz.prog l args W R:=by
 obtain⟨fn,tmps,assign,body,hy,hR⟩:=h
 exact⟨fn,tmps,assign,body,hy,Jk hR⟩
theorem oN {M:Nat→Prop} {W:World} {u:Value} {n:Int} (h:RepD M W u (int n)):u= .int .i64 n:=by cases h;rfl
theorem KU {M:Nat→Prop} {W:World} {u:Value} {x:AV} (h:RepD M W u (.pp [x])):∃(g o:Nat) (X:Value),u= .pointer (some ⟨g,o,none⟩)∧¬M g∧g<W.heap.size∧W.cell? ⟨g,o,none⟩=some X∧RepD M W X x:=by
 cases h with
 |pp z hM hg hl hx=>exact⟨_,_,z 0,rfl,hM,hg,(hl 0 ai).1,hx 0 x rfl⟩
theorem EE (r:Option Nat):(aT r).round=r:=rfl
theorem EF (r:Option Nat) (f:FuncId):(aT r).fn f=True:=rfl
theorem EG (r:Option Nat):(aT r).depth=none:=rfl
attribute [local go_sem] EE EF EG
end
section
open Go.RowKit Go.Shelf
attribute [local go_sem] Oper.semAt_some
attribute [local go_sem] EE EF EG
def uV (x:Nat→Nat→Value) (i:Nat):Array Value:= #[.int .i64 i,.agg #[x i 0,x i 1,x i 2,x i 3,x i 4,x i 5,x i 6,x i 7,x i 8]]
set_option maxHeartbeats 2000000 in
theorem U3 (n N:Nat) (hl:N≤100000) (x:Nat→Nat→Value)
 (l gf of cap:Nat) (A:Option Addr) (J:Nat→World→Prop) (Jx:World→Prop) (W:World)
 (hc:∀k wr,J k wr→wr.cell? ⟨gf,of,none⟩=some (.slice A N cap))
 (hJ:∀k W1 W2,J k W1→Below W1.heap.size W1 W2→J k W2)
 (hA:0<N→∃b o,A=some ⟨b,o,none⟩∧∀k wr,J k wr→∀(i j:Nat),i<N→j<9→wr.cell? ⟨b,o+i*9+j,none⟩=some (x i j))
 (hY:∀k W1 i m,J k W1→k+i+1=N→YieldAt (aT none) m Tryz.prog l (uV x i) W1 fun e W'=>(e= .returned (.bool true)∧J (k+1) W')∨(e= .returned (.bool false)∧Jx W')) (h0:J 0 W):
 CallsIn (aT none) n Tryz.prog 218 #[.func (.yield l) #[] #[],.pointer (some ⟨gf,of,none⟩)] W fun e W'=>(∃v,e= .returned v)∧(J N W'∨Jx W'):=by
 refine callsIn_of_wp Tryz.func218 rfl trivial ?_ rfl
 simp only[Tryz.ntmps218,List.size_toArray,List.length_cons,List.length_nil,Nat.reduceAdd,Nat.reduceSub,Array.replicate_succ,Array.replicate_zero,List.push_toArray,List.append_toArray,List.nil_append,List.cons_append]
 have c1:=hc 0 W h0
 have w0:IntKind.i64.wrap ((N:Int)-1)=(N:Int)-1:=KO byOmega byOmega
 gi_wp2
 gi_loopw [3] (fun x wr=>∃(i:Nat),x= .int .i64 ((i:Int)-1)∧i≤N∧J (N-i) wr) (fun x _=>(intOf x+1).toNat)
 case atStart=>
  exact⟨N,rfl,Nat.le_refl _,by rw[Nat.sub_self];exact h0⟩
 case round=>
  obtain⟨i,rfl,hi,hj⟩:=hrel
  rcases i with _|i
  ·have c0:((0:Int)≤((0:Nat):Int)-1)=False:=by simp
   gi_wp2
   go_end0
   exact⟨⟨_,rfl⟩,.inl (by rw[Nat.sub_zero] at hj;exact hj)⟩
  ·obtain⟨b,o,rfl,hcell⟩:=hA byOmega
   have e0:(((i+1:Nat):Int)-1)=(i:Int):=byOmega
   have w1:IntKind.i64.wrap ((i:Int)-1)=(i:Int)-1:=KO byOmega byOmega
   have c2:=hc _ wr hj
   have q0:=hcell _ wr hj i 0 byOmega byOmega
   have q1:=hcell _ wr hj i 1 byOmega byOmega
   have q2:=hcell _ wr hj i 2 byOmega byOmega
   have q3:=hcell _ wr hj i 3 byOmega byOmega
   have q4:=hcell _ wr hj i 4 byOmega byOmega
   have q5:=hcell _ wr hj i 5 byOmega byOmega
   have q6:=hcell _ wr hj i 6 byOmega byOmega
   have q7:=hcell _ wr hj i 7 byOmega byOmega
   have q8:=hcell _ wr hj i 8 byOmega byOmega
   rw[Nat.add_zero] at q0
   obtain⟨fn,tmps,assign,body,hy,hR⟩:=hY _ _ i (n-1) hj byOmega
   dsimp only[uV] at hy
   rw[e0]
   have hi2:i<N:=byOmega
   gi_wp2
   refine hR.mono ?_
   rintro e W3 (⟨rfl,hJ3⟩|⟨rfl,hJx3⟩)
   ·gi_wp2
    exact⟨⟨i,by simp,by omega,by rw[show N-i=N-(i+1)+1 by omega];exact hJ3⟩,by simp[intOf]⟩
   ·gi_wp2
    refine bodyPost_ret (results_none rfl _ _ _) rfl ?_
    exact⟨⟨_,rfl⟩,.inr hJx3⟩
def qx {α:Type} (F:α→List AV) (l:List α):List (List AV):=l.zipIdx.reverse.map fun p=>[int p.2,.agg (F p.1)]
theorem EH {α:Type} (F:α→List AV) (l:List α):(qx F l).length=l.length:=by simp[qx]
theorem KV {α:Type} (F:α→List AV) (l:List α) {k i:Nat} (h:k+i+1=l.length):(qx F l)[k]? =some [int i,.agg (F (l[i]'byOmega))]:=by
 rw[qx,List.getElem?_map,List.getElem?_reverse (by simp;omega),List.length_zipIdx,show l.length-1-k=i by omega,List.getElem?_zipIdx,List.getElem?_eq_getElem byOmega]
 simp
theorem U4 (L:List Version) (f:Bool) (hN:L.length≤100000):D5 Tryz.prog 218 [.pp [.sl f 9 (L.map Version.flat)]] (qx Version.flat L):=by
 intro lb l J Jx W M hlb hM hrep hJ hJx hK hY h0
 obtain⟨u0,rfl⟩:∃u0,lb= #[u0]:=by
  obtain⟨L⟩:=lb
  rcases L with _|⟨u0,_|⟨u1,L⟩⟩<;>simp at hlb
  exact⟨u0,rfl⟩
 obtain⟨gf,of,F0,rfl,mf,zf,cf0,rf0⟩:=KU (hrep 0 u0 _ rfl rfl)
 have hc:∀ {k:Nat} {wr:World},J k wr→∀g j,g<W.heap.size→¬M g→wr.cell? ⟨g,j,none⟩=W.cell? ⟨g,j,none⟩:=fun hj g j hg hn=>World.cell?_of_block ((hK _ _ hj).2 g hg hn)
 cases rf0 with
 |sl b o z hn hcap hm hf hk hA hl hx=>
  rename_i A n cap
  rw[List.length_map] at hn
  subst hn
  rw[EH]
  refine U3 8 L.length hN z l gf of cap A J Jx W (fun k wr hj=>(hc hj _ _ zf mf).trans cf0) hJ (fun hne=> ?_) (fun k W1 i m hj hi=>KT (m:=9) (hY k W1 W1 (uV z i) _ hj (.refl _ _) (KV _ _ hi) rfl fun j v a hv ha ι=> .d ?_)) h0
  ·obtain⟨h1,h2,h3⟩:=hA (by intro h;rw[List.map_eq_nil_iff] at h;rw[h] at hne;simp at hne)
   exact⟨b,o,h1,fun k wr hj i j hi hj9=>(hc hj _ _ h3 h2).trans (hl i j (by simpa using hi) hj9).1⟩
  ·have hi2:i<L.length:=byOmega
   rcases j with _|_|j
   ·simp[uV] at hv ha
    subst hv ha
    exact .v _
   ·simp[uV] at hv ha
    subst hv ha
    refine .agg rfl fun j u y hu hy=> ?_
    have hu2:u=z i j∧j<9:=by
     rcases j with _|_|_|_|_|_|_|_|_|j<;>simp at hu<;>exact⟨hu.symm,by omega⟩
    obtain⟨rfl,hj9⟩:=hu2
    have hq:=hx i (L[i].flat) j y (by rw[List.getElem?_map,List.getElem?_eq_getElem hi2];rfl) hy
    exact hq.keep (fun g hg hM=>hM.elim id fun h=>absurd hg byOmega) (hK _ _ hj).1 (fun g hg hn=>(hK _ _ hj).2 g hg hn)
   ·simp[uV] at hv
end
section
open Go.RowKit Go.Shelf Go.Deep
attribute [local go_sem] Oper.semAt_some
attribute [local go_sem] EE EF EG
def iV (b:Int) (c:Change):Bool:=decide (c.booked≤b)
def lI (h:History) (b:Int) (i:Nat):Nat:=((h.changes.take i).filter (iV b)).length
theorem U5 {h:History} {b:Int} {i:Nat} (hi:i<h.changes.length) (hb:h.changes[i].booked≤b):lI h b (i+1)=lI h b i+1:=by
 rw[lI,Td hi (by simpa[iV] using hb),List.length_append];rfl
theorem U6 {h:History} {b:Int} {i:Nat} (hi:i<h.changes.length) (hb:¬h.changes[i].booked≤b):lI h b (i+1)=lI h b i:=by
 rw[lI,Te hi (by simpa[iV] using hb)];rfl
theorem U7 {h:History} {b:Int} {i:Nat} (hi:i<h.changes.length) (hb:h.changes[i].booked≤b):(h.changes.filter (iV b))[lI h b i]? =some h.changes[i]:=by
 have e:h.changes.filter (iV b)=(h.changes.take i).filter (iV b)++(h.changes[i]::(h.changes.drop (i+1)).filter (iV b)):=by
  conv=>lhs;rw[←List.take_append_drop i h.changes,List.filter_append,List.drop_eq_getElem_cons hi]
  rw[List.filter_cons_of_pos (by simpa[iV] using hb)]
 rw[e,lI,List.getElem?_append_right (Nat.le_refl _),Nat.sub_self]
 rfl
theorem U8 {M:Nat→Prop} {a n:Nat} {w:World} {c:Change} {A:Option Addr} {m k:Nat} (h:RepD (fun g=>M g∨(a≤g∧g<n)∨g=n) w (.slice A m k) (dz c.covers)):
 ∀(i:Nat) (v:Value) (y:AV),(#[.agg #[.int .i64 c.booked,.int .i64 c.day,.int .i64 c.kind,.int .i64 c.rk,.int .i64 c.rv,.int .i64 c.ra,.int .i64 c.rz,.slice A m k,.int .i64 c.way]]:Array Value)[i]? =some v→[AV.agg c.flat][i]? =some y→
  ∀ι,RepA ι (fun g=>M g∨(a≤g∧g<n)) (w.setCell ⟨n,7,none⟩ (.slice A m k)) v y:=by
 intro i v y hi hy ι
 rcases i with _|i
 ·simp at hi hy
  subst hi hy
  refine .d (.agg rfl fun j x z hx hz=> ?_)
  rcases j with _|_|_|_|_|_|_|_|_|j<;>simp[Change.flat] at hx hz<;>subst hx hz
  ·exact .v _
  ·exact .v _
  ·exact .v _
  ·exact .v _
  ·exact .v _
  ·exact .v _
  ·exact .v _
  ·exact h.keep (fun g _ hg=>hg.elim .inl fun q=> .inr (.inl q)) (by simp[World.setCell]) fun g _ hn=>blk_setCell_other w _ _ g fun e=>hn (.inr (.inr e))
  ·exact .v _
 ·simp at hi
set_option maxHeartbeats 4000000 in
theorem U9 (h:History) (b:Int) (hl:h.changes.length≤100000) (hcc:∀c,c∈h.changes→c.covers.length≤100000):D5 Tryz.prog 198 [.pp h.flat,.pp [int b]] ((h.changes.filter (iV b)).map fun c=>[.agg c.flat]):=by
 intro lb l J Jx W M hlb hM hrep hJ hJx hK hY h0
 obtain⟨u0,u1,rfl⟩:∃u0 u1,lb= #[u0,u1]:=by
  obtain⟨L⟩:=lb
  rcases L with _|⟨u0,_|⟨u1,_|⟨u2,L⟩⟩⟩<;>simp at hlb
  exact⟨u0,u1,rfl⟩
 obtain⟨gb,ob,F1,rfl,mb,zb,cf1,rf1⟩:=KU (hrep 1 u1 _ rfl rfl)
 obtain rfl:=oN rf1
 have hc:∀ {k:Nat} {wr:World},J k wr→∀g j,g<W.heap.size→¬M g→wr.cell? ⟨g,j,none⟩=W.cell? ⟨g,j,none⟩:=fun hj g j hg hn=>World.cell?_of_block ((hK _ _ hj).2 g hg hn)
 have r0:=hrep 0 u0 _ rfl rfl
 cases r0 with
 |pp z hMg hg hcl hcx=>
  rename_i gf of
  have q9:=(hcl 9 (by simp[History.flat])).1
  have rf0:=hcx 9 (jg h.changes) rfl
  clear hcl hcx hrep
  generalize z 9=Z at q9 rf0
  cases rf0 with
  |sl bk o x hn hcap hm hf hk hA hx2 hx=>
   rename_i A n cap
   rw[List.length_map] at hn
   subst hn
   have hJ9:∀k wr,J k wr→wr.cell? ⟨gf,of+9,none⟩=some (.slice A h.changes.length cap):=fun k wr hj=>(hc hj _ _ hg hMg).trans q9
   have hJb:∀k wr,J k wr→wr.cell? ⟨gb,ob,none⟩=some (.int .i64 b):=fun k wr hj=>(hc hj _ _ zb mb).trans cf1
   refine callsIn_of_wp Tryz.func198 rfl trivial ?_ rfl
   simp only[Tryz.ntmps198,List.size_toArray,List.length_cons,List.length_nil,Nat.reduceAdd,Nat.reduceSub,Array.replicate_succ,Array.replicate_zero,List.push_toArray,List.append_toArray,List.nil_append,List.cons_append]
   have c1:=hJ9 0 W h0
   gi_wp2
   gi_loopw [9] (fun x wr=>∃(i:Nat),x= .int .i64 i∧i≤h.changes.length∧J (lI h b i) wr) (fun x _=>h.changes.length-(intOf x).toNat)
   case atStart=>
    exact⟨0,rfl,Nat.zero_le _,h0⟩
   case round=>
    obtain⟨i,rfl,hi,hj⟩:=hrel
    by_cases hi2:i<h.changes.length
    ·obtain⟨h1,h2,h3⟩:=hA (by intro e;rw[List.map_eq_nil_iff] at e;rw[e] at hi2;simp at hi2)
     subst h1
     obtain⟨e0,e1⟩:(∃c,h.changes[i]? =some c)∧True:=⟨⟨_,List.getElem?_eq_getElem hi2⟩,trivial⟩
     have hc0:=(hc hj bk (o+i*9+0) h3 h2).trans (hx2 i 0 (by simpa using hi2) byOmega).1
     have hc1:=(hc hj bk (o+i*9+1) h3 h2).trans (hx2 i 1 (by simpa using hi2) byOmega).1
     have hc2:=(hc hj bk (o+i*9+2) h3 h2).trans (hx2 i 2 (by simpa using hi2) byOmega).1
     have hc3:=(hc hj bk (o+i*9+3) h3 h2).trans (hx2 i 3 (by simpa using hi2) byOmega).1
     have hc4:=(hc hj bk (o+i*9+4) h3 h2).trans (hx2 i 4 (by simpa using hi2) byOmega).1
     have hc5:=(hc hj bk (o+i*9+5) h3 h2).trans (hx2 i 5 (by simpa using hi2) byOmega).1
     have hc6:=(hc hj bk (o+i*9+6) h3 h2).trans (hx2 i 6 (by simpa using hi2) byOmega).1
     have hc7:=(hc hj bk (o+i*9+7) h3 h2).trans (hx2 i 7 (by simpa using hi2) byOmega).1
     have hc8:=(hc hj bk (o+i*9+8) h3 h2).trans (hx2 i 8 (by simpa using hi2) byOmega).1
     have hrow:(h.changes.map Change.flat)[i]? =some h.changes[i].flat:=by rw[List.getElem?_map,List.getElem?_eq_getElem hi2];rfl
     have hv0:=oN (hx i _ 0 (int h.changes[i].booked) hrow rfl)
     have hv7:=hx i _ 7 (dz h.changes[i].covers) hrow rfl
     have hw:IntKind.i64.wrap ((i:Int)+1)=((i+1:Nat):Int):=by rw[fq]<;>omega
     rw[Nat.add_zero,hv0] at hc0
     rw[oN (hx i _ 1 (int h.changes[i].day) hrow rfl)] at hc1
     rw[oN (hx i _ 2 (int h.changes[i].kind) hrow rfl)] at hc2
     rw[oN (hx i _ 3 (int h.changes[i].rk) hrow rfl)] at hc3
     rw[oN (hx i _ 4 (int h.changes[i].rv) hrow rfl)] at hc4
     rw[oN (hx i _ 5 (int h.changes[i].ra) hrow rfl)] at hc5
     rw[oN (hx i _ 6 (int h.changes[i].rz) hrow rfl)] at hc6
     rw[oN (hx i _ 8 (int h.changes[i].way) hrow rfl)] at hc8
     have hsl:∃(A7:Option Addr) (n7 c7:Nat),x i 7= .slice A7 n7 c7:=by
      generalize x i 7=y7 at hv7
      cases hv7
      exact⟨_,_,_,rfl⟩
     obtain⟨A7,n7,c7,hsl⟩:=hsl
     rw[hsl] at hc7 hv7
     have hci:=hcc _ (List.getElem_mem hi2)
     have hyes:=U5 (b:=b) hi2
     have hat:=U7 (b:=b) hi2
     have hno:=U6 (b:=b) hi2
     generalize h.changes[i]=c at *
     have hsz:=(hK _ _ hj).1
     have hb1:∀O,(wr.alloc O).cell? ⟨gb,ob,none⟩=some (.int .i64 b):=fun O=>(((Below.refl wr.heap.size wr).alloc (Nat.le_refl _) O).cell (p:=⟨gb,ob,none⟩) (Nat.lt_of_lt_of_le zb hsz)).trans (hJb _ _ hj)
     by_cases hb:c.booked≤b
     ·have hg1:(c.booked>b)=False:=eq_false byOmega
      have hyes:=hyes hb
      have hat:=hat hb
      have hbl:∀O g,g<wr.heap.size→(wr.alloc O).heap[g]? =wr.heap[g]? :=fun O g hg=>((Below.refl wr.heap.size wr).alloc (Nat.le_refl _) O).block g hg
      have hM2:∀O g,(M g∨(W.heap.size≤g∧g<wr.heap.size)∨g=wr.heap.size)→g<(wr.alloc O).heap.size:=fun O g hg=>by
       have:(wr.alloc O).heap.size=wr.heap.size+1:=by simp
       rcases hg with hg|hg|hg
       ·have:=hM g hg;omega
       ·omega
       ·omega
      have hv7':∀O,RepD (fun g=>M g∨(W.heap.size≤g∧g<wr.heap.size)∨g=wr.heap.size) (wr.alloc O) (.slice A7 n7 c7) (dz c.covers):=fun O=>hv7.keep (fun g hg hg2=>by
       rcases hg2 with hg2|hg2|hg2
       ·exact hg2
       ·omega
       ·omega) (by simp;omega) fun g hg hn=>(hbl O g byOmega).trans ((hK _ _ hj).2 g hg hn)
      have kc:=fun O=>xL c.covers false hci _ (wr.alloc O) #[.slice A7 n7 c7] (hM2 O) rfl fun k v y hk hy=>by
       rcases k with _|k
       ·simp at hk hy;subst hk hy;exact hv7' O
       ·simp at hk
      have slOf:∀ {N:Nat→Prop} {w:World} {u:Value},RepD N w u (dz c.covers)→∃(A8:Option Addr) (n8 c8:Nat),u= .slice A8 n8 c8:=fun h=>by cases h;exact⟨_,_,_,rfl⟩
      have hat2:((h.changes.filter (iV b)).map fun c=>[AV.agg c.flat])[lI h b i]? =some [.agg c.flat]:=by rw[List.getElem?_map,hat];rfl
      gi_wp2_with (gi_at_call 167;refine qV.2 ?_;refine(kc _).mono ?_;rintro e w3 ⟨u,rfl,hu,hb3⟩;obtain⟨A8,n8,c8,rfl⟩:=slOf hu;have q0:w3.cell? ⟨wr.heap.size,0,none⟩=some (.int .i64 c.booked):=(hb3.cell (p:=⟨wr.heap.size,0,none⟩) ai).trans ai;have q1:w3.cell? ⟨wr.heap.size,1,none⟩=some (.int .i64 c.day):=(hb3.cell (p:=⟨wr.heap.size,1,none⟩) ai).trans ai;have q2:w3.cell? ⟨wr.heap.size,2,none⟩=some (.int .i64 c.kind):=(hb3.cell (p:=⟨wr.heap.size,2,none⟩) ai).trans ai;have q3:w3.cell? ⟨wr.heap.size,3,none⟩=some (.int .i64 c.rk):=(hb3.cell (p:=⟨wr.heap.size,3,none⟩) ai).trans ai;have q4:w3.cell? ⟨wr.heap.size,4,none⟩=some (.int .i64 c.rv):=(hb3.cell (p:=⟨wr.heap.size,4,none⟩) ai).trans ai;have q5:w3.cell? ⟨wr.heap.size,5,none⟩=some (.int .i64 c.ra):=(hb3.cell (p:=⟨wr.heap.size,5,none⟩) ai).trans ai;have q6:w3.cell? ⟨wr.heap.size,6,none⟩=some (.int .i64 c.rz):=(hb3.cell (p:=⟨wr.heap.size,6,none⟩) ai).trans ai;have q7:w3.cell? ⟨wr.heap.size,7,none⟩=some (.slice A7 n7 c7):=(hb3.cell (p:=⟨wr.heap.size,7,none⟩) ai).trans ai;have q8:w3.cell? ⟨wr.heap.size,8,none⟩=some (.int .i64 c.way):=(hb3.cell (p:=⟨wr.heap.size,8,none⟩) ai).trans ai;have f7:w3.frozen? ⟨wr.heap.size,7,none⟩=false:=(hb3.frozen (p:=⟨wr.heap.size,7,none⟩) ai).trans ai;have hb4:Below wr.heap.size wr (w3.setCell ⟨wr.heap.size,7,none⟩ (.slice A8 n8 c8)):=((((Below.refl wr.heap.size wr).alloc (Nat.le_refl _) _).trans (hb3.mono ai)).setCell (Nat.le_refl _) _);obtain⟨fn,tmps,assign,body,hy,hR⟩:=KT (m':=7) (hY _ wr _ #[.agg #[.int .i64 c.booked,.int .i64 c.day,.int .i64 c.kind,.int .i64 c.rk,.int .i64 c.rv,.int .i64 c.ra,.int .i64 c.rz,.slice A8 n8 c8,.int .i64 c.way]] [.agg c.flat] hj hb4 hat2 rfl (U8 hu)))
      refine hR.mono ?_
      rintro e W3 (⟨rfl,hJ3⟩|⟨rfl,hJx3⟩)
      ·gi_wp2
       exact⟨⟨i+1,by simp,by omega,by rw[hyes];exact hJ3⟩,by simp[intOf];omega⟩
      ·gi_wp2
       refine bodyPost_ret (results_none rfl _ _ _) rfl ?_
       exact⟨⟨_,rfl⟩,.inr hJx3⟩
     ·have hg1:(c.booked>b)=True:=eq_true byOmega
      have hno:=hno hb
      gi_wp2
      exact⟨⟨i+1,by simp,by omega,by rw[hno];exact hJ _ _ _ hj ((Below.refl _ _).alloc (Nat.le_refl _) _)⟩,by simp[intOf];omega⟩
    ·have hi3:i=h.changes.length:=byOmega
     subst hi3
     have Hj:=hj
     have hw:lI h b h.changes.length=((h.changes.filter (iV b)).map fun c=>[AV.agg c.flat]).length:=by rw[lI,List.take_length,List.length_map]
     rw[hw] at Hj
     gi_wp2
     go_end0
     exact⟨⟨_,rfl⟩,.inl Hj⟩
end
end Go.Proofs.YtlikpcpllahalaaGreat.V
