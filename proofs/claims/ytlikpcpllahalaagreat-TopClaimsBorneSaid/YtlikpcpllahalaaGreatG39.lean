/- Parts of the proof. -/
import Derived.Test.YtlikpcpllahalaaGreatG38
import Derived.Test.YtlikpcpllahalaaGreatG36
import Derived.Test.YtlikpcpllahalaaGreatG30
set_option maxHeartbeats 16000000
set_option linter.unusedSimpArgs false
set_option linter.unusedVariables false
namespace Go.Proofs.YtlikpcpllahalaaGreat.V
open Go.RowKit
set_option maxRecDepth 100000
theorem XP (b i a d:Int) (t:Terms) (c:Change) (l:Claim) (e:Act) (y:Treaty):Fun Tryz.prog 150 [.agg (Fact.mk b 1 i a d t c l e y).flat] (bool (Fact.mk b 1 i a d t c l e y).right):=by
 refine af Tryz.func150 fun cx hN hR hF hL=> ?_
 refine' bD tt (I jy (I jA (I jB (I jC (I jD (I jE jF)))))) (V.l4 fun K hK=> ?_)
 (refine aB [0] (XF) ?_)
 (revert K;refine bK ?_;refine' bD tt (I jy (I jA (I jB (I jC (I jD (I jE (I jF (I (Xy ⟨b,1,i,a,d,t,c,l,e,y⟩) (I (sw ⟨b,1,0,a,d,fG,c,l,e,y⟩) xK))))))))) (lv (fun hq=>lf ?_) (lv (fun hq=>fun hq=>lf ?_) tt)))
 ·exact(sF (f:=⟨b,1,i,a,d,t,c,l,e,y⟩) ((jX _).1 rfl) (by assumption)).symm
 ·rw[sG (f:=⟨b,1,i,a,d,t,c,l,e,y⟩) ((jX _).1 rfl) (by assumption)]
  simp[Fact.asks,aQ,Bool.and_assoc]
theorem XQ (b i a d:Int) (t:Terms) (c:Change) (l:Claim) (e:Act) (y:Treaty):Fun Tryz.prog 150 [.agg (Fact.mk b 2 i a d t c l e y).flat] (bool (Fact.mk b 2 i a d t c l e y).right):=by
 refine af Tryz.func150 fun cx hN hR hF hL=> ?_
 refine' bD tt (I jy (I jA (I jB (I jC (I jD (I jE jF)))))) (V.l4 fun K hK=> ?_)
 (refine aB [0] (XG) ?_)
 (revert K;refine bK ?_;refine' bD tt (I jy (I jA (I jB (I jC (I jD (I jE (I jF (I (Xz ⟨b,2,i,a,d,t,c,l,e,y⟩) (I (sw ⟨b,2,0,a,d,t,vo,l,e,y⟩) AP))))))))) (lv (fun hq=>lf ?_) (lv (fun hq=>fun hq=>fun hq=>lf ?_) tt)))
 ·exact(sF (f:=⟨b,2,i,a,d,t,c,l,e,y⟩) ((jX _).2.1 rfl) (by assumption)).symm
 ·rw[sG (f:=⟨b,2,i,a,d,t,c,l,e,y⟩) ((jX _).2.1 rfl) (by assumption)]
  simp[Fact.asks,aQ,Bool.and_assoc]
theorem XR (b i a d:Int) (t:Terms) (c:Change) (l:Claim) (e:Act) (y:Treaty):Fun Tryz.prog 150 [.agg (Fact.mk b 3 i a d t c l e y).flat] (bool (Fact.mk b 3 i a d t c l e y).right):=by
 refine af Tryz.func150 fun cx hN hR hF hL=> ?_
 refine' bD tt (I jy (I jA (I jB (I jC (I jD (I jE jF)))))) (V.l4 fun K hK=> ?_)
 (refine aB [0] (XH) ?_)
 (revert K;refine bK ?_;refine' bD tt (I jy (I jA (I jB (I jC (I jD (I jE (I jF (I (XA ⟨b,3,i,a,d,t,c,l,e,y⟩) (I (sw ⟨b,3,0,0,d,t,c,l,e,y⟩) xK))))))))) (lv (fun hq=>lf ?_) (lv (fun hq=>fun hq=>fun hq=>fun hq=>lf ?_) tt)))
 ·exact(sF (f:=⟨b,3,i,a,d,t,c,l,e,y⟩) ((jX _).2.2.1 rfl) (by assumption)).symm
 ·rw[sG (f:=⟨b,3,i,a,d,t,c,l,e,y⟩) ((jX _).2.2.1 rfl) (by assumption)]
  simp[Fact.asks,aQ,Bool.and_assoc]
theorem XT (b i a d:Int) (t:Terms) (c:Change) (l:Claim) (e:Act) (y:Treaty):Fun Tryz.prog 150 [.agg (Fact.mk b 4 i a d t c l e y).flat] (bool (Fact.mk b 4 i a d t c l e y).right):=by
 refine af Tryz.func150 fun cx hN hR hF hL=> ?_
 refine' bD tt (I jy (I jA (I jB (I jC (I jD (I jE jF)))))) (V.l4 fun K hK=> ?_)
 (refine aB [0] (XI) ?_)
 (revert K;refine bK ?_;refine' bD tt (I jy (I jA (I jB (I jC (I jD (I jE (I jF (I (XB ⟨b,4,i,a,d,t,c,l,e,y⟩) (I (sw ⟨b,4,i,a,d,t,c,vv,e,y⟩) Xm))))))))) (lv (fun hq=>lf ?_) (lv (fun hq=>fun hq=>fun hq=>fun hq=>fun hq=>lf ?_) tt)))
 ·exact(sF (f:=⟨b,4,i,a,d,t,c,l,e,y⟩) ((jX _).2.2.2.1 rfl) (by assumption)).symm
 ·rw[sG (f:=⟨b,4,i,a,d,t,c,l,e,y⟩) ((jX _).2.2.2.1 rfl) (by assumption)]
  simp[Fact.asks,aQ,Bool.and_assoc]
theorem XU (b i a d:Int) (t:Terms) (c:Change) (l:Claim) (e:Act) (y:Treaty):Fun Tryz.prog 150 [.agg (Fact.mk b 5 i a d t c l e y).flat] (bool (Fact.mk b 5 i a d t c l e y).right):=by
 refine af Tryz.func150 fun cx hN hR hF hL=> ?_
 refine' bD tt (I jy (I jA (I jB (I jC (I jD (I jE jF)))))) (V.l4 fun K hK=> ?_)
 (refine aB [0] (XJ) ?_)
 (revert K;refine bK ?_;refine' bD tt (I jy (I jA (I jB (I jC (I jD (I jE (I jF (I (XC ⟨b,5,i,a,d,t,c,l,e,y⟩) (I (sw ⟨b,5,0,a,d,t,c,l,vw,y⟩) Xn))))))))) (lv (fun hq=>lf ?_) (lv (fun hq=>fun hq=>fun hq=>fun hq=>fun hq=>fun hq=>lf ?_) tt)))
 ·exact(sF (f:=⟨b,5,i,a,d,t,c,l,e,y⟩) ((jX _).2.2.2.2.1 rfl) (by assumption)).symm
 ·rw[sG (f:=⟨b,5,i,a,d,t,c,l,e,y⟩) ((jX _).2.2.2.2.1 rfl) (by assumption)]
  simp[Fact.asks,aQ,Bool.and_assoc]
theorem XV (b i a d:Int) (t:Terms) (c:Change) (l:Claim) (e:Act) (y:Treaty):Fun Tryz.prog 150 [.agg (Fact.mk b 6 i a d t c l e y).flat] (bool (Fact.mk b 6 i a d t c l e y).right):=by
 refine af Tryz.func150 fun cx hN hR hF hL=> ?_
 refine' bD tt (I jy (I jA (I jB (I jC (I jD (I jE jF)))))) (V.l4 fun K hK=> ?_)
 (refine aB [0] (XK) ?_)
 (revert K;refine bK ?_;refine' bD tt (I jy (I jA (I jB (I jC (I jD (I jE (I jF (I (XD ⟨b,6,i,a,d,t,c,l,e,y⟩) (I (sw ⟨b,6,i,a,d,t,c,l,e,vz⟩) Fb))))))))) (lv (fun hq=>lf ?_) (lv (fun hq=>fun hq=>fun hq=>fun hq=>fun hq=>fun hq=>fun hq=>lf ?_) tt)))
 ·exact(sF (f:=⟨b,6,i,a,d,t,c,l,e,y⟩) ((jX _).2.2.2.2.2.1 rfl) (by assumption)).symm
 ·rw[sG (f:=⟨b,6,i,a,d,t,c,l,e,y⟩) ((jX _).2.2.2.2.2.1 rfl) (by assumption)]
  simp[Fact.asks,aQ,Bool.and_assoc]
theorem XW (b i a d:Int) (t:Terms) (c:Change) (l:Claim) (e:Act) (y:Treaty):Fun Tryz.prog 150 [.agg (Fact.mk b 7 i a d t c l e y).flat] (bool (Fact.mk b 7 i a d t c l e y).right):=by
 refine af Tryz.func150 fun cx hN hR hF hL=> ?_
 refine' bD tt (I jy (I jA (I jB (I jC (I jD (I jE jF)))))) (V.l4 fun K hK=> ?_)
 (refine aB [0] (XL) ?_)
 (revert K;refine bK ?_;refine' bD tt (I jy (I jA (I jB (I jC (I jD (I jE (I jF (I (XE ⟨b,7,i,a,d,t,c,l,e,y⟩) (I (sw ⟨b,7,i,a,0,t,c,l,e,y⟩) xK))))))))) (lv (fun hq=>lf ?_) (lv (fun hq=>fun hq=>fun hq=>fun hq=>fun hq=>fun hq=>fun hq=>lf ?_) tt)))
 ·exact(sF (f:=⟨b,7,i,a,d,t,c,l,e,y⟩) ((jX _).2.2.2.2.2.2 rfl) (by assumption)).symm
 ·rw[sG (f:=⟨b,7,i,a,d,t,c,l,e,y⟩) ((jX _).2.2.2.2.2.2 rfl) (by assumption)]
  simp[Fact.asks,aQ,Bool.and_assoc]
theorem XX (f:Fact) (hk:¬(1≤f.kind∧f.kind≤7)):Fun Tryz.prog 150 [.agg f.flat] (bool f.right):=by
 have:f.right=false:=by
  have:f.asks=false:=by
   unfold Fact.asks
   repeat'(split<;>try(exfalso;omega))
   rfl
  simp[Fact.right,this]
 rw[this]
 refine af Tryz.func150 fun cx hN hR hF hL=> ?_
 (repeat' first|focus ((try(revert K;refine bK ?_));refine' bD tt (I jy (I jA (I jB (I jC (I jD (I jE jF)))))) ?_;(repeat' first|exact tt|apply lv|(apply oK;intro K hK)|intro hq);all_goals apply lf)|refine mQ P7 (XM _ hk) ?_)
theorem XY (f:Fact):Fun Tryz.prog 150 [.agg f.flat] (bool f.right):=by
 by_cases hk:1≤f.kind∧f.kind≤7
 ·obtain⟨b,k,i,a,d,t,c,l,e,y⟩:=f
  simp only at hk
  have:k=1∨k=2∨k=3∨k=4∨k=5∨k=6∨k=7:=byOmega
  rcases this with rfl|rfl|rfl|rfl|rfl|rfl|rfl
  ·exact XP b i a d t c l e y
  ·exact XQ b i a d t c l e y
  ·exact XR b i a d t c l e y
  ·exact XT b i a d t c l e y
  ·exact XU b i a d t c l e y
  ·exact XV b i a d t c l e y
  ·exact XW b i a d t c l e y
 ·exact XX f hk
end Go.Proofs.YtlikpcpllahalaaGreat.V
namespace Go.Proofs.YtlikpcpllahalaaGreat.V
open Go.RowKit
set_option maxRecDepth 100000
attribute [local go_sem] Option.toList_some Option.toList_none Int.reduceEq Int.reduceNe
def Stt.acctAt (s:Stt) (id:Int):Int:=dY (fun a:Acct=>decide (a.h.id=id)) 0 s.acc
def Stt.fileAt (s:Stt) (id:Int):Int:=dY (fun f:File=>decide (f.claim.id=id)) 0 s.files
theorem XZ (a:Acct) (id:Int):Fun Tryz.prog 127 [.agg a.flat,.pp [int id]] (bool (decide (a.h.id=id))):=by
 refine af Tryz.func127 fun cx hN hR hF hL=> ?_
 exact run tt tt
theorem X0 (a:File) (id:Int):Fun Tryz.prog 297 [.agg a.flat,.pp [int id]] (bool (decide (a.claim.id=id))):=by
 refine af Tryz.func297 fun cx hN hR hF hL=> ?_
 exact run tt tt
theorem BG (s:Stt) (id:Int) (hl:s.acc.length≤100000):Fun Tryz.prog 79 [.agg s.flat,int id] (int (s.acctAt id)):=by
 have k:=E8 (g:=127) (caps:=[.pp [int id]]) (p:=fun a:Acct=>decide (a.h.id=id)) (fun x=>XZ x id) PY ai s.acc hl
 refine lq Tryz.func79 rfl (Nat.le_of_ble_eq_true rfl) fun cx hN hR hF hL=> ?_;apply dS;(case hA=>(simp only[go_sem,↓reduceIte];rfl))
 (refine aD ?_)
 refine' run tt (V.l1 ?_)
 refine rP [8] [(2,.ptr 0 0),(3,.pp [int id])] [(0,some ⟨32,s.flat⟩)] rfl ?_ ?_ ?_
 ·simp only[go_sem,↓reduceIte]
 ·simp only[go_sem,↓reduceIte]
 refine aL ?_
 refine' aj tt k (V.l1 ?_)
 rfl
theorem LZ (s:Stt) (id:Int) (hl:s.files.length≤100000):Fun Tryz.prog 294 [.agg s.flat,int id] (int (s.fileAt id)):=by
 have k:=BB (g:=297) (caps:=[.pp [int id]]) (p:=fun a:File=>decide (a.claim.id=id)) (fun x=>X0 x id) Qf ai s.files hl
 refine lq Tryz.func294 rfl (Nat.le_of_ble_eq_true rfl) fun cx hN hR hF hL=> ?_;apply dS;(case hA=>(simp only[go_sem,↓reduceIte];rfl))
 (refine aD ?_)
 refine' run tt (V.l1 ?_)
 refine rP [8] [(2,.ptr 0 0),(3,.pp [int id])] [(0,some ⟨32,s.flat⟩)] rfl ?_ ?_ ?_
 ·simp only[go_sem,↓reduceIte]
 ·simp only[go_sem,↓reduceIte]
 refine aL ?_
 refine' aj tt k (V.l1 ?_)
 rfl
def Stt.acct (s:Stt) (id:Int):Option Acct:=s.acc.find? fun a=>decide (a.h.id=id)
def oZ:Option Acct→AV
 |some a=> .tup [.agg a.flat,bool true]
 |none=> .tup [.agg [int 0,int 0,int 0,int 0,int 0,int 0,int 0,int 0,.v (.slice none 0 0),.v (.slice none 0 0),int 0],bool false]
theorem lQ {α:Type} {p:α→Bool} {l:List α} {k:Nat} (h:l.findIdx? p=some k):∃x,l[k]? =some x∧p x=true∧l.find? p=some x:=by
 obtain⟨hk,h1,h2⟩:=List.findIdx?_eq_some_iff_getElem.1 h
 refine⟨l[k],List.getElem?_eq_getElem hk,h1,?_⟩
 rw[List.find?_eq_some_iff_getElem]
 exact⟨h1,k,hk,rfl,fun j hj=>by simpa using h2 j hj⟩
theorem X3 {α:Type} {p:α→Bool} {l:List α} (h:l.findIdx? p=none):l.find? p=none:=by
 rw[List.find?_eq_none]
 intro x hx
 have:=List.findIdx?_eq_none_iff.1 h x hx
 simpa using this
attribute [local go_sem] Int.reduceLE Int.reduceNeg in
theorem Fe (s:Stt) (id:Int) (hl:s.acc.length≤100000):Fun Tryz.prog 38 [.agg s.flat,int id] (oZ (s.acct id)):=by
 have k:=BG s id hl
 unfold Stt.acctAt at k
 rw[kM] at k
 cases hx:s.acc.findIdx? (fun a:Acct=>decide (a.h.id=id)) with
 |none=>
  rw[hx] at k
  rw[show s.acct id=none from X3 hx,oZ]
  refine af Tryz.func38 fun cx hN hR hF hL=> ?_
  exact aj tt k tt
 |some i=>
  rw[hx] at k
  obtain⟨a,h1,-,h3⟩:=lQ hx
  rw[show s.acct id=some a from h3,oZ]
  simp only[Int.zero_add] at k
  have hi:i<s.acc.length:=(List.getElem?_eq_some_iff.1 h1).1
  have e1:(s.acc.map Acct.flat)[i]? =some a.flat:=by rw[List.getElem?_map,h1];rfl
  have b1:(0≤(i:Int))=True:=eT
  have b2:((i:Int)<(s.acc.length:Int))=True:=eT
  refine af Tryz.func38 fun cx hN hR hF hL=> ?_
  exact aj (I e1 (I b1 (I b2 (I (decide_eq_true (of_eq_true b1)) ((@ge_iff_le Int _)))))) k tt
theorem X4 (s:Stt) (f:Fact):Fun Tryz.prog 107 [.agg s.flat,.agg f.flat] (int (if f.right=true then(if f.booked≤s.closed then 12 else 0) else 1)):=by
 have k:=XY f
 by_cases h1:f.right=true
 ·rw[h1] at k
  rw[if_pos h1]
  by_cases h2:f.booked≤s.closed
  ·rw[if_pos h2]
   refine af Tryz.func107 fun cx hN hR hF hL=> ?_
   exact aj (I (eq_true h2) (decide_eq_true h2)) k tt
  ·rw[if_neg h2]
   refine af Tryz.func107 fun cx hN hR hF hL=> ?_
   exact aj (I (eq_false h2) (decide_eq_false h2)) k tt
 ·rw[if_neg h1]
  have h1:f.right=false:=by simpa using h1
  rw[h1] at k
  refine af Tryz.func107 fun cx hN hR hF hL=> ?_
  exact aj tt k tt
end Go.Proofs.YtlikpcpllahalaaGreat.V
namespace Go.Proofs.YtlikpcpllahalaaGreat.V
open Go.RowKit
set_option maxRecDepth 100000
attribute [local go_sem] Option.toList_some Option.toList_none
theorem X5 (x y:Int) (h1:0≤x) (h2:x≤1000000000000000) (h3:0≤y) (h4:y≤10000):Fun Tryz.prog 200 [.v (.int .u64 x),.v (.int .u64 y)] (.tup [.v (.int .u64 0),.v (.int .u64 (x*y))]):=by
 have sh:=fun a=>EA .u64 rfl a
 have a1:=qo h1 byOmega
 have a2:=qo h3 byOmega
 have hy:y%4294967296=y:=byOmega
 have hy2:y/4294967296=0:=byOmega
 rw[hy] at a2
 generalize hx0:x%4294967296=x0 at *
 generalize hx1:x/4294967296=x1 at *
 have hb0:0≤x0∧x0<4294967296:=byOmega
 have hb1:0≤x1∧x1≤232830:=byOmega
 have p0:0≤x0*y∧x0*y≤42949672960000:=⟨Int.mul_nonneg hb0.1 h3,by
  have:=Int.mul_le_mul (show x0≤4294967296 by omega) h4 h3 byOmega;omega⟩
 have p1:0≤x1*y∧x1*y≤2328300000:=⟨Int.mul_nonneg hb1.1 h3,by
  have:=Int.mul_le_mul hb1.2 h4 h3 byOmega;omega⟩
 have p2:0≤x*y∧x*y≤10000000000000000000:=⟨Int.mul_nonneg h1 h3,by
  have:=Int.mul_le_mul h2 h4 h3 byOmega;omega⟩
 have w0:IntKind.u64.wrap (x0*y)=x0*y:=iH p0.1 byOmega
 have w1:IntKind.u64.wrap (x1*y)=x1*y:=iH p1.1 byOmega
 have w2:IntKind.u64.wrap (x*y)=x*y:=iH p2.1 byOmega
 generalize hq:x0*y/4294967296=q at *
 have hq2:0≤q∧q≤10000:=byOmega
 have w3:IntKind.u64.wrap (x1*y+q)=x1*y+q:=iH byOmega byOmega
 have a3:=qo (a:=x1*y+q) byOmega byOmega
 have hm:(x1*y+q)%4294967296=x1*y+q:=byOmega
 have hd:(x1*y+q)/4294967296=0:=byOmega
 rw[hm] at a3
 have z1:IntKind.u64.wrap (x0*0)=0:=by rw[Int.mul_zero];decide
 have z2:IntKind.u64.wrap (x1*0)=0:=by rw[Int.mul_zero];decide
 have z3:IntKind.u64.wrap (0+0)=0:=by decide
 have z4:IntKind.u64.wrap (x1*y+q+0)=x1*y+q:=by rw[Int.add_zero];exact w3
 refine af Tryz.func200 fun cx hN hR hF hL=> ?_
 refine' run (I sh (I hx1 (I hy2 w2))) (V.l1 ?_)
 show IntKind.u64.wrap (IntKind.u64.wrap (IntKind.u64.wrap (x1*0)+IntKind.u64.wrap (IntKind.u64.wrap (x1*m32 y)+IntKind.u64.wrap (m32 x*m32 y)/4294967296)/4294967296)+IntKind.u64.wrap (m32 (IntKind.u64.wrap (IntKind.u64.wrap (x1*m32 y)+IntKind.u64.wrap (m32 x*m32 y)/4294967296))+IntKind.u64.wrap (m32 x*0))/4294967296)=0
 rw[a1,a2,w0,w1,hq,w3,hd,a3,z1,z2,z3,z4,hd]
 decide
attribute [local go_sem] decide_false in
theorem X6 (lo d:Int) (h1:0≤lo) (h2:lo≤18446744073709551615) (h3:0<d) (h4:d≤10000):Fun Tryz.prog 201 [.v (.int .u64 0),.v (.int .u64 lo),.v (.int .u64 d)] (.tup [.v (.int .u64 (lo/d)),.v (.int .u64 (lo%d))]):=by
 have hz:(d=0)=False:=eF
 have hz2:¬d=0:=byOmega
 have hle:(d≤0)=False:=eF
 have q1:lo.tdiv d=lo/d:=Int.tdiv_eq_ediv_of_nonneg h1
 have q2:lo.tmod d=lo%d:=Int.tmod_eq_emod_of_nonneg h1
 have g1:0≤lo/d:=Int.ediv_nonneg h1 byOmega
 have g2:lo/d≤lo:=Int.ediv_le_self _ h1
 have w:IntKind.u64.wrap (lo/d)=lo/d:=iH g1 byOmega
 refine af Tryz.func201 fun cx hN hR hF hL=> ?_
 exact run (I hz (I hle (I q1 (I q2 w)))) tt
theorem X7 (q r:Int) (h1:0≤q) (h2:0≤r) (h3:r≤10000):Fun Tryz.prog 199 [.v (.int .u64 q),.v (.int .u64 r),.v (.int .u64 10000)] (bool (decide (r>10000-r)||(decide (r=10000-r)&&decide (q%2=1)))):=by
 have w:IntKind.u64.wrap (10000-r)=10000-r:=iH byOmega byOmega
 have q2:q.tmod 2=q%2:=Int.tmod_eq_emod_of_nonneg h1
 refine af Tryz.func199 fun cx hN hR hF hL=> ?_
 have rr:bC .rem .u64 q 2=some (.v (.int .u64 (q%2))):=by rw[Iq _ _ _ (by decide),q2]
 refine' run (I w rr) (V.l4 fun K hK=> ?_)
 all_goals exact fun h _=>h
attribute [local go_sem] Int.reduceEq Int.reduceLT decide_false in
theorem X8 (m bp:Int) (h1:0≤m) (h2:m≤1000000000000000) (h3:1≤bp) (h4:bp≤10000):Fun Tryz.prog 171 [.agg [.v (.func (.func 199) #[] #[])],int m,int bp,int 10000] (.tup [int (jq m bp),int 0]):=by
 have c3:IntKind.u64.wrap 10000=10000:=by decide
 have p2:0≤m*bp∧m*bp≤10000000000000000000:=⟨Int.mul_nonneg h1 byOmega,by
  have:=Int.mul_le_mul h2 h4 byOmega byOmega;omega⟩
 have g1:(m<0)=False:=eF
 have g2:(bp<0)=False:=eF
 have c1:IntKind.u64.wrap m=m:=iH byOmega byOmega
 have c2:IntKind.u64.wrap bp=bp:=iH byOmega byOmega
 have k1:=X5 m bp h1 h2 byOmega h4
 have k2:=X6 (m*bp) 10000 p2.1 byOmega byOmega byOmega
 have hbd:=K9 h1 h3 h4
 unfold jq at *
 simp only at *
 generalize m*bp=x at *
 have k3:=X7 (x/10000) (x%10000) byOmega byOmega byOmega
 have hq:(x/10000>4000000000000000000)=False:=eF
 have w1:IntKind.u64.wrap (x/10000+1)=x/10000+1:=iH byOmega byOmega
 have w2:IntKind.i64.wrap (x/10000)=x/10000:=fq byOmega byOmega
 have w3:IntKind.i64.wrap (x/10000+1)=x/10000+1:=fq byOmega byOmega
 have hq1:(x/10000+1>4000000000000000000)=False:=eF
 by_cases hc:x%10000>10000-x%10000∨x%10000=10000-x%10000∧x/10000%2=1
 ·have hd:(decide (x%10000>10000-x%10000)||(decide (x%10000=10000-x%10000)&&decide (x/10000%2=1)))=true:=by simpa using hc
  rw[hd] at k3
  rw[if_pos hc]
  refine af Tryz.func171 fun cx hN hR hF hL=> ?_
  exact aj (I g1 (I g2 (I c1 (I c2 (I c3 (I hq (I w1 (I w2 (I w3 hq1))))))))) (I k1 (I k2 k3)) tt
 ·have hd:(decide (x%10000>10000-x%10000)||(decide (x%10000=10000-x%10000)&&decide (x/10000%2=1)))=false:=by
   rw[Bool.eq_false_iff];simpa using hc
  rw[hd] at k3
  rw[if_neg hc]
  refine af Tryz.func171 fun cx hN hR hF hL=> ?_
  exact aj (I g1 (I g2 (I c1 (I c2 (I c3 (I hq (I w1 (I w2 (I w3 hq1))))))))) (I k1 (I k2 k3)) tt
theorem L6 (m bp:Int) (h1:0≤m) (h2:m≤1000000000000000) (h3:1≤bp) (h4:bp≤10000):Fun Tryz.prog 87 [int m,int bp] (.tup [int (jq m bp),int 0]):=by
 have k:Fun Tryz.prog 132 [int m,int bp,int 10000] (.tup [int (jq m bp),int 0]):=by
  refine af Tryz.func132 fun cx hN hR hF hL=> ?_
  exact aj tt (I EB (X8 m bp h1 h2 h3 h4)) tt
 refine af Tryz.func87 fun cx hN hR hF hL=> ?_
 exact aj tt k tt
end Go.Proofs.YtlikpcpllahalaaGreat.V
namespace Go.Proofs.YtlikpcpllahalaaGreat.V
open Go.RowKit
set_option maxRecDepth 100000
attribute [local go_sem] Option.toList_some Option.toList_none
theorem L8 {c:Cover} (hc:c.ok):(decide (0≤c.peril)&&decide (c.peril<8)&&(decide (1≤c.share)&&decide (c.share≤10000))&&rises [0,c.ded,IntKind.i64.wrap (c.limit-1),IntKind.i64.wrap (c.agg-1),999999999999999]&&decide (c.ded<c.limit))=c.rightB:=by
 obtain⟨⟨a1,a2⟩,⟨b1,b2⟩,⟨c1,c2⟩,⟨d1,d2⟩,e1,e2⟩:=hc
 have w:∀n:Int,-9223372036854775808≤n→n≤9223372036854775807→IntKind.i64.wrap (n-1)=if n= -9223372036854775808 then 9223372036854775807 else n-1:=by
  intro n h1 h2
  split
  ·rename_i h;subst h;decide
  ·exact fq byOmega byOmega
 rw[w _ b1 b2,w _ c1 c2,Bool.eq_iff_iff]
 unfold Cover.rightB
 rw[kL]
 simp only[rises,Bool.and_eq_true,decide_eq_true_eq,Bool.and_true]
 split<;>split<;>omega
theorem BH (c:Cover) (hc:c.ok):Fun Tryz.prog 40 [.agg c.flat] (bool c.rightB):=by
 rw[←L8 hc]
 refine af Tryz.func40 fun cx hN hR hF hL=> ?_
 refine' run tt (lv (fun hq=>o4 fun K hK=> ?_) (V.l3 fun hq=> ?_))
 (refine d9 [3104] (JH [0,c.ded,IntKind.i64.wrap (c.limit-1),IntKind.i64.wrap (c.agg-1),999999999999999]) ?_)
 all_goals(try focus ((try(revert K;refine bK ?_));refine' run tt ?_;(repeat' first|exact tt|apply lv|(apply oK;intro K hK)|intro hq);all_goals apply lf))
 ·rw[hq,Bool.true_and]
 ·rw[hq,Bool.false_and,Bool.false_and]
theorem X9 (a:Int) (l:List Int):Fun Tryz.prog 43 [int a,ints l] (int (max (l.foldl min a) 0)):=by
 refine af Tryz.func43 fun cx hN hR hF hL=> ?_
 have hl:l.length≤9223372036854775807:=by
  have:=hL
  simp[maxLen] at this
  omega
 refine' run tt (V.l1 ?_)
 refine aX (σ:={i:Nat // i≤l.length}) (fun s=>⟨[(9,int s.1),(0,int ((l.take s.1).foldl min a)),(7,ints l),(8,int l.length)],[],2000⟩) (fun s=>l.length-s.1) id ⟨0,by omega⟩ ?_ ?_
 ·simp only[go_sem,↓reduceIte,hF]
  exact⟨rfl,rfl⟩
 ·rintro⟨i,h1⟩
  by_cases hi:i<l.length
  ·have hq:l[i]? =some l[i]:=List.getElem?_eq_getElem hi
   have e1:(l.map ak)[i]? =some (ak l[i]):=by rw[List.getElem?_map,hq];rfl
   have e5:=wS i
   have hk1:i<(l.map ak).length:=by simpa using hi
   have hs:(l.take (i+1)).foldl min a=min ((l.take i).foldl min a) l[i]:=by rw[List.take_succ_eq_append_getElem hi,List.foldl_append];rfl
   generalize l[i]=q at *
   refine' run (I e1 (I e5 hk1)) (V.l3 fun hq=> ?_)
   refine⟨⟨i+1,hi⟩,id,?_,mS⟩
   simp only[hs]
   simp only[go_sem,↓reduceIte,hF]
  ·obtain rfl:i=l.length:=byOmega
   simp only[List.take_length]
   exact run tt tt
theorem L9 (a b:Int):Fun Tryz.prog 43 [int a,ints [b]] (int (max (min a b) 0)):=X9 a [b]
theorem Ya (c:Cover) (loss:Int) (h:Int64 (loss-c.ded)):Fun Tryz.prog 41 [.agg c.flat,int loss] (int (max (min (loss-c.ded) c.limit) 0)):=by
 have w:IntKind.i64.wrap (loss-c.ded)=loss-c.ded:=fq h.1 h.2
 refine af Tryz.func41 fun cx hN hR hF hL=> ?_
 (repeat' first|focus ((try(revert K;refine bK ?_));refine' run w ?_;(repeat' first|exact tt|apply lv|(apply oK;intro K hK)|intro hq);all_goals apply lf)|(with_reducible apply aU [1048] HY (L9 (loss-c.ded) c.limit);(case hy|hl|hk=>(simp only[go_sem,↓reduceIte];try with_unfolding_all rfl));(case hz=>(with_unfolding_all simp[go_sem,aH,w];done))))
theorem Yb (c:Cover) (amt:Int) (h1:0≤amt) (h2:amt≤1000000000000000) (h3:1≤c.share) (h4:c.share≤10000):Fun Tryz.prog 42 [.agg c.flat,int amt] (int (jq amt c.share)):=by
 refine af Tryz.func42 fun cx hN hR hF hL=> ?_
 exact aj tt (L6 amt c.share h1 h2 h3 h4) tt
attribute [local go_sem] decide_false in
theorem Ff (c:Cover) (loss used:Int) (hc:c.ok) (hl:Int64 loss) (hu:Int64 used):Fun Tryz.prog 14 [.agg c.flat,int loss,int used] (int (pays c loss used)):=by
 unfold pays
 by_cases h:c.rightB=true∧0≤loss∧0≤used
 ·rw[if_pos h]
  obtain⟨h1,h2,h3⟩:=h
  have hr:=kL.1 h1
  unfold gT
  have g1:(loss<0)=False:=eF
  have g2:(used<0)=False:=eF
  have w:IntKind.i64.wrap (c.agg-used)=c.agg-used:=by
   have:=hu.2
   rw[fq]<;>omega
  have k1:=Ya c loss (by have:=hl.2;unfold Int64;omega)
  have k2:=Yb c (max (min (loss-c.ded) c.limit) 0) byOmega byOmega hr.2.2.1 hr.2.2.2.1
  refine af Tryz.func14 fun cx hN hR hF hL=> ?_
  refine' aj (I h1 (I g1 (I g2 w))) (BH c hc) (V.l3 fun hq=> ?_)
  refine iD mixed (σ:={i:Nat // i=0∨i=1∨i=2}) (fun s=>⟨[(28,int s.1),(7,int (if s.1=0 then loss else if s.1=1 then max (min (loss-c.ded) c.limit) 0 else jq (max (min (loss-c.ded) c.limit) 0) c.share)),(27,int (2:Nat)),(26,.osl 3032 1 0 2),(2,int used),(3,.ptr 0 0)],
   [(3032,some ⟨139,[.fn (.func 41) [.agg c.flat] [],.fn (.func 42) [.agg c.flat] []]⟩),(0,some ⟨44,c.flat⟩)],4000⟩) (fun s=>2-s.1) id ⟨0,.inl rfl⟩ (by rw[hN];kernel_rfl) ?_ ?_
  ·simp only[go_sem,↓reduceIte,hF]
   rfl
  ·rintro⟨i,hi⟩
   rcases hi with rfl|rfl|rfl
   ·have d1:(((0:Nat):Int)<((2:Nat):Int))=True:=eT
    have d2:IntKind.i64.wrap (((0:Nat):Int)+1)=((1:Nat):Int):=by decide
    simp only[if_true]
    refine' aj (I d1 d2) k1 (V.l3 fun hq=> ?_)
    refine⟨⟨1,.inr (.inl rfl)⟩,id,?_,mS⟩
    simp only[go_sem,↓reduceIte,hF]
   ·have d1:(((1:Nat):Int)<((2:Nat):Int))=True:=eT
    have d2:IntKind.i64.wrap (((1:Nat):Int)+1)=((2:Nat):Int):=by decide
    simp only[Nat.succ_ne_zero,Nat.reduceEqDiff,if_true,if_false]
    refine' aj (I d1 d2) k2 (V.l3 fun hq=> ?_)
    refine⟨⟨2,.inr (.inr rfl)⟩,id,?_,mS⟩
    simp only[go_sem,↓reduceIte,hF]
   ·have d1:(((2:Nat):Int)<((2:Nat):Int))=False:=eF
    simp only[Nat.succ_ne_zero,Nat.reduceEqDiff,if_false]
    (repeat' first|focus ((try(revert K;refine bK ?_));refine' run (I d1 w) ?_;(repeat' first|exact tt|apply lv|(apply oK;intro K hK)|intro hq);all_goals apply lf)|(with_reducible apply aU [5040] HY (L9 (jq (max (min (loss-c.ded) c.limit) 0) c.share) (c.agg-used));(case hy|hl|hk=>(simp only[go_sem,↓reduceIte];try with_unfolding_all rfl));(case hz=>(with_unfolding_all simp[go_sem,aH,d1,w];done))))
 ·rw[if_neg h]
  have h':(!c.rightB||decide (loss<0)||decide (used<0))=true:=by
   cases h1:c.rightB with
   |false=>rfl
   |true=>
    have:¬(0≤loss∧0≤used):=fun g=>h ⟨h1,g⟩
    simp
    omega
  refine af Tryz.func14 fun cx hN hR hF hL=> ?_
  exact aj h' (BH c hc) tt
end Go.Proofs.YtlikpcpllahalaaGreat.V
namespace Go.Proofs.YtlikpcpllahalaaGreat.V
open Go.RowKit
set_option maxRecDepth 100000
attribute [local go_sem] Option.toList_some Option.toList_none
theorem qG (n a b:Int):Fun Tryz.prog 166 [int n,int a,int b] (bool (iw n a b)):=by
 refine af Tryz.func166 fun cx hN hR hF hL=> ?_
 refine' run tt (V.l1 ?_)
 rfl
theorem Yc (c:Claim):Fun Tryz.prog 153 [.agg c.flat] (bool c.formedB):=by
 refine af Tryz.func153 fun cx hN hR hF hL=> ?_
 refine' aj tt qG (V.l1 ?_)
 rfl
theorem Yd (a:Act):Fun Tryz.prog 191 [.agg a.flat] (bool a.rightB):=by
 refine af Tryz.func191 fun cx hN hR hF hL=> ?_
 refine' aj tt qG (lv (fun hq=>lf ?_) (V.l3 fun hq=> ?_))
 all_goals simp[Act.rightB,hq]
theorem Ma (c:Claim):Fun Tryz.prog 193 [.agg c.flat] (.agg (File.flat ⟨c,[]⟩)):=by
 refine af Tryz.func193 fun cx hN hR hF hL=> ?_
 exact run tt tt
theorem Ye (f:File) (hl:f.acts.length≤100000):Fun Tryz.prog 226 [.agg f.flat] (int (nG f)):=by
 unfold nG
 rcases List.eq_nil_or_concat f.acts with h|⟨p,x,h⟩
 ·rw[h]
  refine af Tryz.func226 fun cx hN hR hF hL=> ?_
  refine' run h (V.l3 fun hq=> ?_)
  rfl
 ·rw[List.concat_eq_append] at h
  have hlen:(f.acts.length:Int)=(p.length:Int)+1:=by rw[h,List.length_append,List.length_singleton];omega
  have hg:((f.acts.length:Int)>0)=True:=eT
  have w1:IntKind.i64.wrap ((f.acts.length:Int)-1)=(p.length:Int):=wE
  have e1:(f.acts.map Act.flat)[p.length]? =some x.flat:=by rw[h];simp
  have hk:p.length<(f.acts.map Act.flat).length:=by rw[h];simp
  have w2:((p.length:Int)<(f.acts.length:Int))=True:=eT
  have hr:f.acts.getLast?=some x:=by rw[h];simp
  rw[hr]
  refine af Tryz.func226 fun cx hN hR hF hL=> ?_
  exact run (I hg (I w1 (I e1 (I hk w2)))) tt
@[go_sem] def kP (s:StA):List AV:=[int s.gross,int s.shown,int 0,int s.back,int 0,bool s.opn]
theorem Yf (s:StA) (b n:Int):eY s ⟨b,1,n⟩=⟨n,s.shown,s.back,s.opn⟩:=rfl
theorem Yg (s:StA) (b n:Int):eY s ⟨b,2,n⟩=⟨s.gross,IntKind.i64.wrap (s.shown+n),s.back,s.opn⟩:=rfl
theorem Yh (s:StA) (b n:Int):eY s ⟨b,3,n⟩=⟨s.gross,s.shown,IntKind.i64.wrap (s.back+n),s.opn⟩:=rfl
theorem Yi (s:StA) (b n:Int):eY s ⟨b,4,n⟩=⟨s.gross,s.shown,s.back,false⟩:=rfl
theorem Yj (s:StA) (b n:Int):eY s ⟨b,5,n⟩=⟨s.gross,s.shown,s.back,true⟩:=rfl
theorem Yk (s:StA) (b amt:Int):aC Tryz.prog 161 [(0,⟨250,kP s⟩)] [.ptr 0 0,int amt] (.tup []) [(0,some ⟨250,kP (eY s ⟨b,1,amt⟩)⟩)]:=by
 rw[Yf]
 refine aW 1 Tryz.func161 (fun cx hN hR hF hL=> ?_)
 exact run tt tt
theorem Yl (s:StA) (b amt:Int):aC Tryz.prog 162 [(0,⟨250,kP s⟩)] [.ptr 0 0,int amt] (.tup []) [(0,some ⟨250,kP (eY s ⟨b,2,amt⟩)⟩)]:=by
 rw[Yg]
 refine aW 1 Tryz.func162 (fun cx hN hR hF hL=> ?_)
 exact run tt tt
theorem Ym (s:StA) (b amt:Int):aC Tryz.prog 163 [(0,⟨250,kP s⟩)] [.ptr 0 0,int amt] (.tup []) [(0,some ⟨250,kP (eY s ⟨b,3,amt⟩)⟩)]:=by
 rw[Yh]
 refine aW 1 Tryz.func163 (fun cx hN hR hF hL=> ?_)
 exact run tt tt
theorem Yn (s:StA) (b amt:Int):aC Tryz.prog 164 [(0,⟨250,kP s⟩)] [.ptr 0 0,int amt] (.tup []) [(0,some ⟨250,kP (eY s ⟨b,4,amt⟩)⟩)]:=by
 rw[Yi]
 refine aW 1 Tryz.func164 (fun cx hN hR hF hL=> ?_)
 exact run tt tt
theorem Yo (s:StA) (b amt:Int):aC Tryz.prog 165 [(0,⟨250,kP s⟩)] [.ptr 0 0,int amt] (.tup []) [(0,some ⟨250,kP (eY s ⟨b,5,amt⟩)⟩)]:=by
 rw[Yj]
 refine aW 1 Tryz.func165 (fun cx hN hR hF hL=> ?_)
 exact run tt tt
@[go_sem] def Yp:List AV:=[.v .nilFunc,.v (.func (.func 161) #[] #[]),.v (.func (.func 162) #[] #[]),.v (.func (.func 163) #[] #[]),.v (.func (.func 164) #[] #[]),.v (.func (.func 165) #[] #[])]
attribute [local go_sem] Int.reduceLE Int.reduceLT Int.reduceToNat in
theorem Mc (f:File) (hl:f.acts.length≤100000):Fun Tryz.prog 122 [.agg f.flat] (.agg (kP (dw f.acts))):=by
 obtain⟨c,l⟩:=f
 simp only at hl ⊢
 refine af Tryz.func122 fun cx hN hR hF hL=> ?_
 refine' run tt (V.l1 ?_)
 refine aX (σ:={i:Nat // i≤l.length}) (fun s=>⟨[(12,int s.1),(11,int l.length),(10,uY l),(4,.ptr 2008 0),(3,.ptr 1008 0),(2,.ptr 8 0)],[(2008,some ⟨250,kP (dw (l.take s.1))⟩),(1008,some ⟨302,Yp⟩),(8,some ⟨250,kP ⟨0,0,0,false⟩⟩)],4000⟩) (fun s=>l.length-s.1) id ⟨0,Nat.zero_le _⟩ ?_ ?_
 ·simp only[go_sem,↓reduceIte,hF]
  exact⟨rfl,rfl⟩
 ·rintro⟨i,h1⟩
  by_cases hi:i<l.length
  ·have hq:l[i]? =some l[i]:=List.getElem?_eq_getElem hi
   have e1:(l.map Act.flat)[i]? =some l[i].flat:=by rw[List.getElem?_map,hq];rfl
   have e5:=wS i
   have hk1:i<(l.map Act.flat).length:=by simpa using hi
   have hs:dw (l.take (i+1))=eY (dw (l.take i)) l[i]:=by rw[List.take_succ_eq_append_getElem hi,uZ]
   generalize l[i]=q at *
   generalize dw (l.take i)=s at *
   obtain⟨bk,kd,am⟩:=q
   by_cases hk:1≤kd∧kd≤5
   ·rcases(by omega:kd=1∨kd=2∨kd=3∨kd=4∨kd=5) with rfl|rfl|rfl|rfl|rfl
    ·have hI:iw 1 1 5=true:=by decide
     refine' aj (I e1 (I e5 (I hk1 hI))) qG (lv (fun hq=>fun hq=>o4 fun K hK=> ?_) tt)
     (refine aB [2008] (Yk s bk am) ?_)
     (revert K;refine bK ?_;refine' run (I e1 (I e5 (I hk1 hI))) (V.l1 ?_))
     refine⟨⟨i+1,hi⟩,id,?_,mS⟩
     simp only[hs]
     simp only[go_sem,↓reduceIte,hF]
    ·have hI:iw 2 1 5=true:=by decide
     refine' aj (I e1 (I e5 (I hk1 hI))) qG (lv (fun hq=>fun hq=>o4 fun K hK=> ?_) tt)
     (refine aB [2008] (Yl s bk am) ?_)
     (revert K;refine bK ?_;refine' run (I e1 (I e5 (I hk1 hI))) (V.l1 ?_))
     refine⟨⟨i+1,hi⟩,id,?_,mS⟩
     simp only[hs]
     simp only[go_sem,↓reduceIte,hF]
    ·have hI:iw 3 1 5=true:=by decide
     refine' aj (I e1 (I e5 (I hk1 hI))) qG (lv (fun hq=>fun hq=>o4 fun K hK=> ?_) tt)
     (refine aB [2008] (Ym s bk am) ?_)
     (revert K;refine bK ?_;refine' run (I e1 (I e5 (I hk1 hI))) (V.l1 ?_))
     refine⟨⟨i+1,hi⟩,id,?_,mS⟩
     simp only[hs]
     simp only[go_sem,↓reduceIte,hF]
    ·have hI:iw 4 1 5=true:=by decide
     refine' aj (I e1 (I e5 (I hk1 hI))) qG (lv (fun hq=>fun hq=>o4 fun K hK=> ?_) tt)
     (refine aB [2008] (Yn s bk am) ?_)
     (revert K;refine bK ?_;refine' run (I e1 (I e5 (I hk1 hI))) (V.l1 ?_))
     refine⟨⟨i+1,hi⟩,id,?_,mS⟩
     simp only[hs]
     simp only[go_sem,↓reduceIte,hF]
    ·have hI:iw 5 1 5=true:=by decide
     refine' aj (I e1 (I e5 (I hk1 hI))) qG (lv (fun hq=>fun hq=>o4 fun K hK=> ?_) tt)
     (refine aB [2008] (Yo s bk am) ?_)
     (revert K;refine bK ?_;refine' run (I e1 (I e5 (I hk1 hI))) (V.l1 ?_))
     refine⟨⟨i+1,hi⟩,id,?_,mS⟩
     simp only[hs]
     simp only[go_sem,↓reduceIte,hF]
   ·have hI:iw kd 1 5=false:=by rw[Bool.eq_false_iff,ne_eq,EO];exact hk
    have hs2:eY s ⟨bk,kd,am⟩=s:=by
     unfold eY
     simp only
     rw[if_neg byOmega,if_neg byOmega,if_neg byOmega,if_neg byOmega,if_neg byOmega]
    rw[hs2] at hs
    refine' aj (I e1 (I e5 (I hk1 hI))) qG (lv (fun hq=>fun hq=>lf ?_) tt)
    refine⟨⟨i+1,hi⟩,id,?_,mS⟩
    simp only[hs]
    simp only[go_sem,↓reduceIte,hF]
  ·obtain rfl:i=l.length:=byOmega
   simp only[List.take_length]
   exact run tt tt
end Go.Proofs.YtlikpcpllahalaaGreat.V
namespace Go.Proofs.YtlikpcpllahalaaGreat.V
open Go.RowKit
set_option maxRecDepth 100000
attribute [local go_sem] Option.toList_some Option.toList_none
theorem Yq (f:File) (hl:f.acts.length≤100000):Fun Tryz.prog 73 [.agg f.flat] (.agg (iq f.acts).flat):=by
 refine af Tryz.func73 fun cx hN hR hF hL=> ?_
 refine' aj tt (Mc f hl) (V.l1 ?_)
 exact⟨rfl,rfl,rfl,rfl,rfl,rfl⟩
theorem yt (a:Act):a.flat.length=3:=rfl
theorem Md (a:Act):a.flat.all AV.isData=true:=by simp[Act.flat]
theorem clone_fA (l:List Act) (hl:l.length≤100000):Fun Tryz.prog 227 [uY l] (uY l):=by
 refine af Tryz.func227 fun cx hN hR hF hL=> ?_
 refine' run tt (V.l2 ?_ (V.l4 fun K hK=> ?_))
 ·exact⟨bS yt l,dR yt Md l rfl⟩
 ·simp[maxLen];omega
@[go_sem] theorem rowA_ren (r:Nat→Nat) (l:List Act):((l.map Act.flat).flatten).map (AV.ren r)=(l.map Act.flat).flatten:=jh (fun x r=>by simp[Act.flat]) r l
@[go_sem] theorem rowA_nms (p:Nat→Bool) (l:List Act):((l.map Act.flat).flatten).all (AV.names p)=true:=ji (fun x p=>by simp[Act.flat]) p l
theorem Yr (l:List Act) (hl:l.length≤100000):aC Tryz.prog 227 [] [uY l] (.osl 0 3 0 l.length) [(0,some ⟨97,(l.map Act.flat).flatten⟩)]:=by
 refine fu 0 Tryz.func227 rfl (Nat.le_of_ble_eq_true rfl) (by simp[go_sem]) fun cx hN hR hF hL=> ?_;apply fw;(case hA=>(simp only[go_sem,↓reduceIte];rfl));(case hB=>(simp only[go_sem,↓reduceIte];rfl))
 (refine aD ?_)
 refine' run tt (V.l1 ?_)
 refine eX ?_
 (refine aD ?_)
 refine' run tt (V.l1 ?_)
 refine xC rfl (fun hq=> ?_) ?_
 ·obtain rfl:l=[]:=by simpa using hq
  (refine aD ?_)
  refine' run tt (V.l1 ?_)
  refine Sm 2 3000 3 97 rfl (Nat.le_of_ble_eq_true rfl) ?_
  refine oq (eG 0 3000) ⟨[(2,.osl 0 3 0 0)],[(0,some ⟨97,[]⟩)],1⟩ ?_ (aL ?_)
  ·simp only[go_sem,↓reduceIte,hF]
   exact fun b g h=>absurd (hF b g h) (by simp[inl])
  ·exact run tt tt
   all_goals(try rfl)
 ·refine aL ?_
  refine' run tt (V.l1 ?_)
  (refine aD ?_)
  refine' run tt (V.l2 ?_ (V.l4 fun K hK=> ?_))
  ·refine oq (eG 0 2016) ⟨[(2,.osl 0 3 0 l.length)],[(0,some ⟨97,(l.map Act.flat).flatten⟩)],1⟩ ?_ (aL ?_)
   ·simp only[go_sem,↓reduceIte,hF]
    exact fun b g h=>absurd (hF b g h) (by simp[inl])
   ·exact run tt tt
  ·simp[maxLen];omega
theorem Yt {t:TypeId} {R:AV→AV→Prop} (l:List Act) (c:Act) {n:Nat} (hn:n=l.length+1):aH (some ⟨t,(l.map Act.flat).flatten++c.flat⟩) R 3 0 n ((l++[c]).map Act.flat):=by
 have h:=dR (t:=t) (R:=R) yt Md (l++[c]) (n:=n) (by simp[hn])
 simpa using h
def qH:File:=⟨⟨0,0,0,0,0,0⟩,[]⟩
def mq (f:File) (a:Act):File:=if dL f a=0 then⟨f.claim,f.acts++[a]⟩ else qH
theorem vB {f:File} {a:Act} {e:Int} (h:dL f a=e) (he:e≠0):mq f a=qH:=by unfold mq;rw[if_neg (by rw[h];exact he)]
theorem Me {f:File} {a:Act} (h:dL f a=0):mq f a=⟨f.claim,f.acts++[a]⟩:=by unfold mq;rw[if_pos h]
theorem Mf (f:File) (a:Act) (hl:f.acts.length≤50000):Fun Tryz.prog 194 [.agg f.flat,.agg a.flat] (.tup [.agg (mq f a).flat,int (dL f a)]):=by
 have hl2:f.acts.length≤100000:=byOmega
 have hlc:(f.acts.map Act.flat).flatten.length=f.acts.length*3:=Ed yt _
 refine af Tryz.func194 fun cx hN hR hF hL=> ?_
 refine' aj tt (I (Mc f hl2) (I (Yd a) (Ye f hl2))) (lv (fun hq=>lf ?_) (lv (fun hq=>fun hq=>lf ?_) (lv (fun hq=>fun hq=>fun hq=>lf ?_) (lv (fun hq=>fun hq=>fun hq=>fun hq=>lf ?_) (lv (fun hq=>fun hq=>fun hq=>fun hq=>fun hq=>fun hq=>lf ?_) (lv (fun hq=>fun hq=>fun hq=>fun hq=>fun hq=>fun hq=>lf ?_) (lv (fun hq=>fun hq=>fun hq=>fun hq=>fun hq=>fun hq=>o4 fun K hK=> ?_) tt)))))))
 ·have e:dL f a=1:=by
   unfold dL
   (repeat' split)<;>first|rfl|omega|(simp_all[iy];done)|(simp_all[iy];omega)
  rw[vB e byOmega,e]
  simp[qH]
 ·have e:dL f a=2:=by
   unfold dL
   (repeat' split)<;>first|rfl|omega|(simp_all[iy];done)|(simp_all[iy];omega)
  rw[vB e byOmega,e]
  simp[qH]
 ·have e:dL f a=4:=by
   unfold dL
   (repeat' split)<;>first|rfl|omega|(simp_all[iy];done)|(simp_all[iy];omega)
  rw[vB e byOmega,e]
  simp[qH]
 ·have e:dL f a=10:=by
   unfold dL
   (repeat' split)<;>first|rfl|omega|(simp_all[iy];done)|(simp_all[iy];omega)
  rw[vB e byOmega,e]
  simp[qH]
 ·have e:dL f a=5:=by
   unfold dL
   (repeat' split)<;>first|rfl|omega|(simp_all[iy];done)|(simp_all[iy];omega)
  rw[vB e byOmega,e]
  simp[qH]
 ·have e:dL f a=5:=by
   unfold dL
   (repeat' split)<;>first|rfl|omega|(simp_all[iy];done)|(simp_all[iy];omega)
  rw[vB e byOmega,e]
  simp[qH]
 (refine aB [8016] (Yr f.acts hl2) ?_)
 have e:dL f a=0:=by
  unfold dL
  (repeat' split)<;>first|rfl|omega|(simp_all[iy];done)|(simp_all[iy];omega)
 (revert K;refine bK ?_;refine' run hlc (V.l2 ?_ (V.l4 fun K hK=> ?_)))
 ·rw[Me e,e]
  exact⟨⟨rfl,rfl,rfl,rfl,rfl,rfl,⟨by simp,bS yt _⟩,Yt f.acts a rfl⟩,rfl⟩
 ·simp[maxLen];omega
end Go.Proofs.YtlikpcpllahalaaGreat.V
namespace Go.Proofs.YtlikpcpllahalaaGreat.V
open Go.RowKit
set_option maxRecDepth 100000
attribute [local go_sem] Option.toList_some Option.toList_none
theorem Yu {c:Claim} {l:List Act} {i:Nat} {a:Act} (h:l[i]? =some a) (hm:gU c [] (l.take i)=true):gU c [] (l.take (i+1))=decide (dL ⟨c,l.take i⟩ a=0):=by
 rw[List.take_add_one,h,Bo,hm]
 simp[gU]
theorem Yv {c:Claim} {l:List Act} {i:Nat} (h:gU c [] (l.take i)=false):gU c [] l=false:=by
 conv=>lhs;rw[←List.take_append_drop i l]
 rw[Bo,h]
 rfl
theorem Yw (f:File):Fun Tryz.prog 154 [.agg f.flat] (bool f.made):=by
 obtain⟨c,l⟩:=f
 refine af Tryz.func154 fun cx hN hR hF hL=> ?_
 have hl:l.length≤9223372036854775807:=by
  simp[maxLen,File.flat] at hL
  omega
 refine' aj tt (Ma c) (V.l1 ?_)
 refine aX (σ:={s:Nat×Int×File // s.1≤l.length∧((s.2.1=0∧s.2.2=⟨c,l.take s.1⟩∧gU c [] (l.take s.1)=true)∨(s.2.1≠0∧gU c [] l=false))}) (fun s=>⟨[(5,int s.1.1),(4,int s.1.2.1),(3,.ptr 1024 0),(1,.ptr 0 0)],[(1024,some ⟨95,s.1.2.2.flat⟩),(0,some ⟨95,(⟨c,l⟩:File).flat⟩)],4000⟩) (fun s=>l.length-s.1.1) id ⟨(0,0,⟨c,[]⟩),Nat.zero_le _,.inl ⟨rfl,rfl,rfl⟩⟩ ?_ ?_
 ·simp only[go_sem,↓reduceIte,hF]
  exact⟨rfl,rfl⟩
 ·rintro⟨⟨i,e,g⟩,h1,h2⟩
  simp only at h1 h2
  by_cases hi:i<l.length
  ·rcases h2 with⟨rfl,rfl,hm⟩|⟨he,hm⟩
   ·have hq2:l[i]? =some l[i]:=List.getElem?_eq_getElem hi
    have e1:(l.map Act.flat)[i]? =some l[i].flat:=by rw[List.getElem?_map,hq2];rfl
    have e5:=wS i
    have hk1:i<(l.map Act.flat).length:=by simpa using hi
    have hn:=Yu hq2 hm
    generalize l[i]=a at *
    have hgl:=(u6 (f:=⟨c,l.take i⟩) hm).len
    have hp:=Mf ⟨c,l.take i⟩ a (by simp only at hgl ⊢;omega)
    refine' aj (I e1 (I e5 hk1)) hp (V.l3 fun hq=> ?_)
    by_cases h0:dL ⟨c,l.take i⟩ a=0
    ·have hn2:gU c [] (l.take (i+1))=true:=by rw[hn,h0];rfl
     have hg:l.take (i+1)=l.take i++[a]:=by rw[List.take_add_one,hq2];rfl
     refine⟨⟨(i+1,0,⟨c,l.take (i+1)⟩),by omega,.inl ⟨rfl,rfl,hn2⟩⟩,id,?_,mS⟩
     rw[Me h0,h0]
     simp only[hg]
     simp only[go_sem,↓reduceIte,hF]
    ·have hn2:gU c [] (l.take (i+1))=false:=by rw[hn];exact decide_eq_false h0
     refine⟨⟨(i+1,dL ⟨c,l.take i⟩ a,mq ⟨c,l.take i⟩ a),by omega,.inr ⟨h0,Yv hn2⟩⟩,id,?_,mS⟩
     simp only[go_sem,↓reduceIte,hF]
   ·refine' run he (V.l3 fun hq=> ?_)
    exact hm.symm
  ·obtain rfl:i=l.length:=byOmega
   refine' run tt (V.l3 fun hq=> ?_)
   rcases h2 with⟨rfl,rfl,hm⟩|⟨he,hm⟩
   ·rw[List.take_length] at hm
    exact hm.symm
   ·rw[decide_eq_false he]
    exact hm.symm
end Go.Proofs.YtlikpcpllahalaaGreat.V
namespace Go.Proofs.YtlikpcpllahalaaGreat.V
open Go.RowKit
set_option maxRecDepth 100000
attribute [local go_sem] Option.toList_some Option.toList_none Int.reduceEq Int.reduceNe
def dM (x:Stt×Int):AV:= .tup [.agg x.1.flat,int x.2]
def sH (s:Stt) (f:Fact):Stt×Int:=if f.day≤s.closed then(s,12) else(⟨s.tariff,s.acc,s.files,s.tre,f.day⟩,0)
theorem Yx (s:Stt) (f:Fact):Fun Tryz.prog 322 [.agg f.flat,.agg s.flat] (dM (sH s f)):=by
 unfold sH
 by_cases h:f.day≤s.closed
 ·rw[if_pos h,dM]
  refine af Tryz.func322 fun cx hN hR hF hL=> ?_
  exact run (I (eq_true h) (decide_eq_true h)) tt
 ·rw[if_neg h,dM]
  refine af Tryz.func322 fun cx hN hR hF hL=> ?_
  exact run (I (eq_false h) (decide_eq_false h)) tt
def sI (s:Stt) (f:Fact):Stt×Int:=match s.acc.findIdx? (fun a:Acct=>decide (a.h.id=f.id)) with
 |none=>(s,7)
 |some i=>match s.acc[i]? with
  |some a=>if IntKind.i64.wrap (4000000000000000000-a.paid)<f.amt then(s,5) else(⟨s.tariff,s.acc.set i ⟨a.h,IntKind.i64.wrap (a.paid+f.amt)⟩,s.files,s.tre,s.closed⟩,0)
  |none=>(s,7)
attribute [local go_sem] Int.reduceLT Int.reduceNeg in
theorem Yy (s:Stt) (f:Fact) (hl:s.acc.length≤100000):Fun Tryz.prog 292 [.agg f.flat,.agg s.flat] (dM (sI s f)):=by
 have k:=BG s f.id hl
 unfold Stt.acctAt at k
 rw[kM] at k
 unfold sI
 cases hx:s.acc.findIdx? (fun a:Acct=>decide (a.h.id=f.id)) with
 |none=>
  rw[hx] at k
  simp only[dM]
  refine af Tryz.func292 fun cx hN hR hF hL=> ?_
  exact aj tt k tt
 |some i=>
  rw[hx] at k
  obtain⟨a,h1,-,h3⟩:=lQ hx
  simp only[Int.zero_add] at k
  simp only[h1]
  have hi:i<s.acc.length:=(List.getElem?_eq_some_iff.1 h1).1
  have e1:(s.acc.map Acct.flat)[i]? =some a.flat:=by rw[List.getElem?_map,h1];rfl
  have b0:((i:Int)<0)=False:=eF
  have b1:(0≤(i:Int))=True:=eT
  have b2:((i:Int)<(s.acc.length:Int))=True:=eT
  by_cases h5:IntKind.i64.wrap (4000000000000000000-a.paid)<f.amt
  ·rw[if_pos h5,dM]
   refine af Tryz.func292 fun cx hN hR hF hL=> ?_
   exact aj (I e1 (I b0 (I b1 (I b2 (I (decide_eq_false (of_eq_false b0)) (I (@gt_iff_lt Int _) (I (eq_true h5) (decide_eq_true h5)))))))) k tt
  ·rw[if_neg h5,dM]
   have kw:=LQ s.acc i ⟨a.h,IntKind.i64.wrap (a.paid+f.amt)⟩ hi hl
   refine af Tryz.func292 fun cx hN hR hF hL=> ?_
   exact aj (I e1 (I b0 (I b1 (I b2 (I (decide_eq_false (of_eq_false b0)) (I (@gt_iff_lt Int _) (I (eq_false h5) (decide_eq_false h5)))))))) (I k kw) tt
def sJ (s:Stt) (f:Fact):Stt×Int:=match s.files.findIdx? (fun a:File=>decide (a.claim.id=f.id)) with
 |none=>(s,7)
 |some i=>match s.files[i]? with
  |some a=>(⟨s.tariff,s.acc,s.files.set i (mq a f.act),s.tre,s.closed⟩,dL a f.act)
  |none=>(s,7)
attribute [local go_sem] Int.reduceLT Int.reduceNeg in
theorem Yz (s:Stt) (f:Fact) (hl:s.files.length≤100000) (hg:∀g,g∈s.files→g.acts.length≤50000):Fun Tryz.prog 305 [.agg f.flat,.agg s.flat] (dM (sJ s f)):=by
 have k:=LZ s f.id hl
 unfold Stt.fileAt at k
 rw[kM] at k
 unfold sJ
 cases hx:s.files.findIdx? (fun a:File=>decide (a.claim.id=f.id)) with
 |none=>
  rw[hx] at k
  simp only[dM]
  refine af Tryz.func305 fun cx hN hR hF hL=> ?_
  exact aj tt k tt
 |some i=>
  rw[hx] at k
  obtain⟨a,h1,-,h3⟩:=lQ hx
  simp only[Int.zero_add] at k
  simp only[h1,dM]
  have hi:i<s.files.length:=(List.getElem?_eq_some_iff.1 h1).1
  have e1:(s.files.map File.flat)[i]? =some a.flat:=by rw[List.getElem?_map,h1];rfl
  have b0:((i:Int)<0)=False:=eF
  have b1:(0≤(i:Int))=True:=eT
  have b2:((i:Int)<(s.files.length:Int))=True:=eT
  have kp:=Mf a f.act (hg a (List.mem_of_getElem? h1))
  have kw:=Xf s.files i (mq a f.act) hi hl
  refine af Tryz.func305 fun cx hN hR hF hL=> ?_
  exact aj (I e1 (I b0 (I b1 (I b2 (decide_eq_false (of_eq_false b0)))))) (I k (I kp kw)) tt
end Go.Proofs.YtlikpcpllahalaaGreat.V
