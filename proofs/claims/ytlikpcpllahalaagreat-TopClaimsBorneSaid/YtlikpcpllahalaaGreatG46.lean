/- Parts of the proof. -/
import Derived.Test.YtlikpcpllahalaaGreatG20
import Derived.Test.YtlikpcpllahalaaGreatG40
import Derived.Test.YtlikpcpllahalaaGreatG41
import Derived.Test.YtlikpcpllahalaaGreatG45
import Derived.Test.YtlikpcpllahalaaGreatG30
set_option maxHeartbeats 16000000
set_option linter.unusedSimpArgs false
set_option linter.unusedVariables false
namespace Go.Proofs.YtlikpcpllahalaaGreat.V
open Go.RowKit
set_option maxRecDepth 100000
section
attribute [local go_sem] Option.toList_some Option.toList_none Int.reduceEq Int.reduceNe Int.reduceLT Int.reduceLE Int.reduceToNat Int.reduceNeg
theorem Fun.fn2 {P:Program} {f g:FuncId} {a x:AV} (h:Fun P f [a,.fn (.func g) [] []] x):Fun P f [a,.v (.func (.func g) #[] #[])] x:=by
 intro M w vs hM hsz hvs
 refine h M w vs hM hsz fun i v y hv hy=> ?_
 match i,hy with
 |0,hy=>exact hvs 0 v y hv hy
 |1,hy=>
  cases hy
  rw[nJ (hvs 1 v _ hv rfl)]
  exact .fn rfl rfl ai ai
theorem MK {g:FuncId} {caps:List AV} (x:Loss) (hg:Fun Tryz.prog g (.agg x.flat::caps) (bool false)) (hc:bn Tryz.prog g) (hd:caps.all AV.isData=true):
 Fun Tryz.prog 93 [.sl false 5 [x.flat],.fn (.func g) [] caps] (bool false):=by
 have hcr:=su hd
 have hcn:=jv hd
 have a3:IntKind.i64.wrap (0+1)=1:=rfl
 have a4:((1:Nat):Int)=1:=rfl
 have k:Fun Tryz.prog 136 [.sl false 5 [x.flat],.fn (.func g) [] caps] (int (-1)):=by
  refine af Tryz.func136 fun cx hN hR hF hL=> ?_
  refine' run (I a3 a4) (V.l1 ?_)
  refine bU 3 ?_
  refine' run (I a3 a4) (lv (fun hq=>o4 fun K hK=> ?_) tt)
  refine bR hc hg (by rw[List.all_cons,hd];simp[Loss.flat]) ?_
  (revert K;refine bK ?_;exact run (I a3 a4) tt)
 refine af Tryz.func93 fun cx hN hR hF hL=> ?_
 refine' run (I hcr hcn) (V.l4 fun K hK=> ?_)
 refine bR P5 k (by simpa using fun x hx=>List.all_eq_true.1 hd x hx) ?_
 (revert K;refine bK ?_;exact run (I hcr (I hcn ((@ge_iff_le Int _)))) tt)
theorem ZG:Fun Tryz.prog 96 [.sl false 9 [[int 2,int 1,int 1,int 101,int 5000,int 0,int 0,int 0,int 255]],.agg [int 3,int 0,int 8,int 1,int 600]] (bool false):=by
 have kt:=Ml ⟨2,1,1,101,5000,0,0,0,255⟩ ⟨3,0,8,1,600⟩
 rw[show vG ⟨2,1,1,101,5000,0,0,0,255⟩ ⟨3,0,8,1,600⟩=true by decide+kernel] at kt
 have a3:IntKind.i64.wrap (0+1)=1:=rfl
 have a4:((1:Nat):Int)=1:=rfl
 have a5:IntKind.i64.wrap (0+101)=101:=rfl
 have a6:IntKind.i64.wrap (0+5000)=5000:=rfl
 refine af Tryz.func96 fun cx hN hR hF hL=> ?_
 refine' run (I a3 a4) (V.l1 ?_)
 refine bU 3 ?_
 exact aj (I a3 (I a4 (I a5 (I a6 ((@gt_iff_lt Int _)))))) kt tt
theorem ZH (t:Treaty):Fun Tryz.prog 88 [.agg t.flat] (bool (!t.right)):=by
 have k:=Fb t
 refine af Tryz.func88 fun cx hN hR hF hL=> ?_
 exact aj tt k tt
theorem ZI (x:Loss):Fun Tryz.prog 90 [.agg x.flat] (bool (!x.right)):=by
 have k:=Mj x
 refine af Tryz.func90 fun cx hN hR hF hL=> ?_
 exact aj tt k tt
theorem ZJ:Fun Tryz.prog 95 [.agg [int 3,int 0,int 8,int 1,int 600],.pp [.sl false 9 [[int 2,int 1,int 1,int 101,int 5000,int 0,int 0,int 0,int 255]]]] (bool false):=by
 have h:=ZG
 refine af Tryz.func95 fun cx hN hR hF hL=> ?_
 exact aj tt h tt
theorem ZK:Fun Tryz.prog 45 [.sl false 9 [[int 2,int 1,int 1,int 101,int 5000,int 0,int 0,int 0,int 255]],.sl false 5 [[int 3,int 0,int 8,int 1,int 600]]] (int 0):=by
 have k1:=(Fg ZH PT rfl [⟨2,1,1,101,5000,0,0,0,255⟩] (by decide)).fn2
 have k2:=(MK ⟨3,0,8,1,600⟩ (ZI ⟨3,0,8,1,600⟩) PU rfl).fn2
 have k3:=MK ⟨3,0,8,1,600⟩ ZJ PW ai
 have k4:=YW [⟨2,1,1,101,5000,0,0,0,255⟩] (by decide) ai
 rw[show([⟨2,1,1,101,5000,0,0,0,255⟩]:List Treaty).any (fun t=> !t.right)=false by decide+kernel] at k1
 rw[show sZ [] (([⟨2,1,1,101,5000,0,0,0,255⟩]:List Treaty).map Treaty.id)=false by decide+kernel] at k4
 have a4:((1:Nat):Int)=1:=rfl
 refine af Tryz.func45 fun cx hN hR hF hL=> ?_
 (repeat' first|focus ((try(revert K;refine bK ?_));refine' aj (I a4 ((@gt_iff_lt Int _))) (I k1 (I k2 k4)) ?_;(repeat' first|exact tt|apply lv|(apply oK;intro K hK)|intro hq);all_goals apply lf)|(with_reducible apply aU [0] PV (k3);(case hy|hl|hk=>(simp only[go_sem,↓reduceIte];try with_unfolding_all rfl));(case hz=>(with_unfolding_all simp[go_sem,aH,a4,(@gt_iff_lt Int _)];done))))
theorem ZL (R:List AV) (h:R=[int 3,int 0,int 8,int 1,int 600]):aC Tryz.prog 46 [] [.sl false 5 [R]] (.osl 0 5 0 1) [(0,some ⟨66,R⟩)]:=by
 subst h
 refine fu 0 Tryz.func46 rfl (Nat.le_of_ble_eq_true rfl) (by simp[go_sem]) fun cx hN hR hF hL=> ?_;apply fw;(case hA=>(simp only[go_sem,↓reduceIte];rfl));(case hB=>(simp only[go_sem,↓reduceIte];rfl))
 (refine aD ?_)
 refine' run tt (V.l1 ?_)
 refine eX ?_
 (refine aD ?_)
 refine' run tt (V.l1 ?_)
 refine xC rfl (fun hq=> ?_) ?_
 ·simp at hq
 ·refine aL ?_
  refine' run tt (V.l1 ?_)
  (refine aD ?_)
  refine' run tt (V.l2 ?_ (V.l4 fun K hK=> ?_))
  ·refine oq (eG 0 2016) ⟨[(2,.osl 0 5 0 1)],[(0,some ⟨66,[int 3,int 0,int 8,int 1,int 600]⟩)],1⟩ ?_ (aL ?_)
   ·simp only[go_sem,↓reduceIte,hF]
    exact fun b g h=>absurd (hF b g h) (by simp[inl])
   ·exact run tt tt
  ·simp[maxLen]
theorem ZM:
 Fun Tryz.prog 48 [.agg [int 2,int 1,int 1,int 101,int 5000,int 0,int 0,int 0,int 255],.sl false 5 [[int 3,int 0,int 8,int 1,int 600]]] (ints [300]):=by
 obtain⟨q,kq⟩:=YR ⟨2,1,1,101,5000,0,0,0,255⟩ ⟨3,0,8,1,600⟩
 rw[show Fh ⟨2,1,1,101,5000,0,0,0,255⟩ ⟨3,0,8,1,600⟩=300 by decide+kernel] at kq
 have a3:IntKind.i64.wrap (0+1)=1:=rfl
 have a4:((1:Nat):Int)=1:=rfl
 refine af Tryz.func48 fun cx hN hR hF hL=> ?_
 refine' run (I a3 a4) (lv (fun hq=>fun hq=>lf ?_) (V.l4 fun K hK=> ?_))
 refine bU 3 ?_
 refine' aj (I a3 a4) kq (lv (fun hq=>fun hq=>lf ?_) tt)
 ·simp[go_sem,aH]
 all_goals simp[maxLen]
theorem ZN:Fun Tryz.prog 16 [.sl false 9 [[int 2,int 1,int 1,int 101,int 5000,int 0,int 0,int 0,int 255]],.sl false 5 [[int 3,int 0,int 8,int 1,int 600]]] (.tup [.sl false 1 [[.sl false 2 [[int 2,int 300]]]],ints [300],int 0]):=by
 have km:=ZK
 have kb:=ZM
 have kc:=ZL _ rfl
 have ko:=Tp
 have a3:IntKind.i64.wrap (0+1)=1:=rfl
 have a4:((1:Nat):Int)=1:=rfl
 have a5:IntKind.i64.wrap (600-300)=300:=rfl
 have a6:(min 300 600:Int)=300:=rfl
 refine af Tryz.func16 fun cx hN hR hF hL=> ?_
 refine' aj (I a3 a4) km (lv (fun hq=>o4 fun K hK=> ?_) tt)
 (refine aB [3008] (kc) ?_)
 (revert K;refine bK ?_;refine' run (I a3 a4) (lv (V.o4 fun K hK=> ?_) (V.l4 fun K hK=> ?_)))
 (refine aB [5008] (kc) ?_)
 (revert K;refine bK ?_;refine' aj (I a3 a4) ko (V.l1 ?_))
 refine bU 3 ?_
 refine' run (I a3 a4) (lv (fun hq=>fun hq=>o4 fun K hK=> ?_) tt)
 (apply zJ [5008] PQ (kb);(case hp|hl|hk=>(simp only[go_sem,↓reduceIte];try rfl));(try(case hfz=>(first|(simp only[go_sem];done)|(simp[go_sem,aH];done)))))
 (revert K;refine bK ?_;refine' run (I a3 a4) (V.l1 ?_))
 refine bU 3 ?_
 refine' run (I a3 (I a4 (I a5 (I a6 ((@gt_iff_lt Int _)))))) (lv (fun hq=>fun hq=>fun hq=>fun hq=>lf ?_) (lv (fun hq=>fun hq=>fun hq=>fun hq=>o4 fun K hK=> ?_) (lv (fun hq=>fun hq=>o4 fun K hK=> ?_) tt)))
 refine bU 3 ?_
 refine' run (I a3 a4) (lv (fun hq=>fun hq=>lf ?_) tt)
 ·simp[go_sem,aH]
 all_goals simp[maxLen]
theorem ZO:Fun Tryz.prog 33 [.agg [int 1,int 1000,int 1500,int 100,int 10000],.sl false 7 [[int 3,int 1,int 1,int 8,int 9,int 0,.sl false 3 [[int 10,int 1,int 900],[int 11,int 2,int 700]]]]] (.tup [.sl false 6 [[int 900,int 700,int 600,int 0,int 200,bool true]],int 0]):=by
 have k:=MJ ⟨1,1000,1500,100,10000⟩ [⟨⟨3,1,1,8,9,0⟩,[⟨10,1,900⟩,⟨11,2,700⟩]⟩] (by simp[Cover.ok,Int64]) (by decide)
 rw[show fA ⟨1,1000,1500,100,10000⟩ [⟨⟨3,1,1,8,9,0⟩,[⟨10,1,900⟩,⟨11,2,700⟩]⟩]=[⟨900,700,600,0,200,true⟩] by decide+kernel,show bO ⟨1,1000,1500,100,10000⟩ [⟨⟨3,1,1,8,9,0⟩,[⟨10,1,900⟩,⟨11,2,700⟩]⟩]=0 by decide+kernel] at k
 exact k
attribute [local go_sem] Int.reduceLE Int.reduceLT Int.reduceToNat in
theorem ZP:Fun Tryz.prog 11 [] (bool true):=by
 have ka:=ZO
 have kt:=YY
 have ko:=ZN
 have kd:=Y0
 have k1:=Mo 600
 have k2:=Mo 300
 unfold tq at *
 refine af Tryz.func11 fun cx hN hR hF hL=> ?_
 (repeat' first|focus ((try(revert K;refine bK ?_));refine' aj tt kd ?_;(repeat' first|exact tt|apply lv|(apply oK;intro K hK)|intro hq);all_goals apply lf)|(with_reducible apply aU [3016,2024] Hy (ka);(case hy|hl|hk=>(simp only[go_sem,↓reduceIte];try with_unfolding_all rfl));(case hz=>(with_unfolding_all simp[go_sem,aH,Int.reduceLT,Int.reduceLE,Int.reduceToNat];done)))|(with_reducible apply aU [4008] PO (kt);(case hy|hl|hk=>(simp only[go_sem,↓reduceIte];try with_unfolding_all rfl));(case hz=>(with_unfolding_all simp[go_sem,aH,Int.reduceLT,Int.reduceLE,Int.reduceToNat];done)))|(with_reducible apply aU [6008,6024] PN (ko);(case hy|hl|hk=>(simp only[go_sem,↓reduceIte];try with_unfolding_all rfl));(case hz=>(with_unfolding_all simp[go_sem,aH,Int.reduceLT,Int.reduceLE,Int.reduceToNat];done)))|(with_reducible apply aU [7256] Hz (k1);(case hy|hl|hk=>(simp only[go_sem,↓reduceIte];try with_unfolding_all rfl));(case hz=>(with_unfolding_all simp[go_sem,aH,Int.reduceLT,Int.reduceLE,Int.reduceToNat];done)))|(with_reducible apply aU [7296] Hz (k2);(case hy|hl|hk=>(simp only[go_sem,↓reduceIte];try with_unfolding_all rfl));(case hz=>(with_unfolding_all simp[go_sem,aH,Int.reduceLT,Int.reduceLE,Int.reduceToNat];done))))
end
section
attribute [local go_sem] Option.toList_some Option.toList_none Int.reduceEq Int.reduceNe
theorem dB:Inv Tryz.prog 284 "bordereau/state.do" 276:=by intro v us w;kernel_rfl
theorem dC:Inv Tryz.prog 285 "bordereau/state.do" 288:=by intro v us w;kernel_rfl
theorem dD:Inv Tryz.prog 286 "bordereau/state.do" 292:=by intro v us w;kernel_rfl
theorem dE:Inv Tryz.prog 287 "bordereau/state.do" 293:=by intro v us w;kernel_rfl
theorem dF:Inv Tryz.prog 288 "bordereau/state.do" 305:=by intro v us w;kernel_rfl
theorem dG:Inv Tryz.prog 289 "bordereau/state.do" 307:=by intro v us w;kernel_rfl
theorem dH:Inv Tryz.prog 290 "bordereau/state.do" 322:=by intro v us w;kernel_rfl
attribute [local go_sem] Int.reduceLT Int.reduceToNat in
theorem ZQ (f:Fact) (h:f.kind=1):aC Tryz.prog 108 [] [.agg f.flat] (.iface 284 (.agg f.flat)) []:=by
 refine aW 1 Tryz.func108 (fun cx hN hR hF hL=> ?_)
 exact run h tt
attribute [local go_sem] Int.reduceLT Int.reduceToNat in
theorem ZR (f:Fact) (h:f.kind=2):aC Tryz.prog 108 [] [.agg f.flat] (.iface 285 (.agg f.flat)) []:=by
 refine aW 1 Tryz.func108 (fun cx hN hR hF hL=> ?_)
 exact run h tt
attribute [local go_sem] Int.reduceLT Int.reduceToNat in
theorem ZT (f:Fact) (h:f.kind=3):aC Tryz.prog 108 [] [.agg f.flat] (.iface 286 (.agg f.flat)) []:=by
 refine aW 1 Tryz.func108 (fun cx hN hR hF hL=> ?_)
 exact run h tt
attribute [local go_sem] Int.reduceLT Int.reduceToNat in
theorem ZU (f:Fact) (h:f.kind=4):aC Tryz.prog 108 [] [.agg f.flat] (.iface 287 (.agg f.flat)) []:=by
 refine aW 1 Tryz.func108 (fun cx hN hR hF hL=> ?_)
 exact run h tt
attribute [local go_sem] Int.reduceLT Int.reduceToNat in
theorem ZV (f:Fact) (h:f.kind=5):aC Tryz.prog 108 [] [.agg f.flat] (.iface 288 (.agg f.flat)) []:=by
 refine aW 1 Tryz.func108 (fun cx hN hR hF hL=> ?_)
 exact run h tt
attribute [local go_sem] Int.reduceLT Int.reduceToNat in
theorem ZW (f:Fact) (h:f.kind=6):aC Tryz.prog 108 [] [.agg f.flat] (.iface 289 (.agg f.flat)) []:=by
 refine aW 1 Tryz.func108 (fun cx hN hR hF hL=> ?_)
 exact run h tt
attribute [local go_sem] Int.reduceLT Int.reduceToNat in
theorem ZX (f:Fact) (h:f.kind=7):aC Tryz.prog 108 [] [.agg f.flat] (.iface 290 (.agg f.flat)) []:=by
 refine aW 1 Tryz.func108 (fun cx hN hR hF hL=> ?_)
 exact run h tt
end
section
attribute [local go_sem] Option.toList_some Option.toList_none Int.reduceEq Int.reduceNe
def fP:AV:= .agg [.v (.slice none 0 0),.v (.slice none 0 0),.v (.slice none 0 0),.v (.slice none 0 0),int 0]
theorem ZY (s:Stt) (f:Fact) (e:Int) (k:Fun Tryz.prog 107 [.agg s.flat,.agg f.flat] (int e)) (he:¬e=0):Fun Tryz.prog 55 [.agg s.flat,.agg f.flat] (.tup [fP,int e]):=by
 unfold fP
 refine af Tryz.func55 fun cx hN hR hF hL=> ?_
 exact bD (I (eq_false he) (decide_eq_false he)) (I dB (I dC (I dD (I dE (I dF (I dG (I dH k))))))) tt
theorem ZZ (s:Stt) (f:Fact) (h:f.kind=1) (k:Fun Tryz.prog 107 [.agg s.flat,.agg f.flat] (int 0)) (S:Stt) (e:Int) (kd:Fun Tryz.prog 276 [.agg f.flat,.agg s.flat] (.tup [.agg S.flat,int e])):
 Fun Tryz.prog 55 [.agg s.flat,.agg f.flat] (.tup [if e=0 then .agg S.flat else fP,int e]):=by
 have kk:=ZQ f h
 unfold fP
 by_cases he:e=0
 ·subst he
  rw[if_pos rfl]
  refine af Tryz.func55 fun cx hN hR hF hL=> ?_
  refine' bD tt (I dB (I dC (I dD (I dE (I dF (I dG (I dH k))))))) (lv (fun hq=>o4 fun K hK=> ?_) tt)
  (refine aB [0] (kk) ?_)
  (revert K;refine bK ?_;exact bD tt (I dB (I dC (I dD (I dE (I dF (I dG (I dH kd))))))) tt)
 ·rw[if_neg he]
  refine af Tryz.func55 fun cx hN hR hF hL=> ?_
  refine' bD tt (I dB (I dC (I dD (I dE (I dF (I dG (I dH k))))))) (lv (fun hq=>o4 fun K hK=> ?_) tt)
  (refine aB [0] (kk) ?_)
  (revert K;refine bK ?_;exact bD (I (eq_false he) (decide_eq_false he)) (I dB (I dC (I dD (I dE (I dF (I dG (I dH kd))))))) tt)
theorem Z0 (s:Stt) (f:Fact) (h:f.kind=2) (k:Fun Tryz.prog 107 [.agg s.flat,.agg f.flat] (int 0)) (S:Stt) (e:Int) (kd:Fun Tryz.prog 288 [.agg f.flat,.agg s.flat] (.tup [.agg S.flat,int e])):
 Fun Tryz.prog 55 [.agg s.flat,.agg f.flat] (.tup [if e=0 then .agg S.flat else fP,int e]):=by
 have kk:=ZR f h
 unfold fP
 by_cases he:e=0
 ·subst he
  rw[if_pos rfl]
  refine af Tryz.func55 fun cx hN hR hF hL=> ?_
  refine' bD tt (I dB (I dC (I dD (I dE (I dF (I dG (I dH k))))))) (lv (fun hq=>o4 fun K hK=> ?_) tt)
  (refine aB [0] (kk) ?_)
  (revert K;refine bK ?_;exact bD tt (I dB (I dC (I dD (I dE (I dF (I dG (I dH kd))))))) tt)
 ·rw[if_neg he]
  refine af Tryz.func55 fun cx hN hR hF hL=> ?_
  refine' bD tt (I dB (I dC (I dD (I dE (I dF (I dG (I dH k))))))) (lv (fun hq=>o4 fun K hK=> ?_) tt)
  (refine aB [0] (kk) ?_)
  (revert K;refine bK ?_;exact bD (I (eq_false he) (decide_eq_false he)) (I dB (I dC (I dD (I dE (I dF (I dG (I dH kd))))))) tt)
theorem Z4 (s:Stt) (f:Fact) (h:f.kind=3) (k:Fun Tryz.prog 107 [.agg s.flat,.agg f.flat] (int 0)) (S:Stt) (e:Int) (kd:Fun Tryz.prog 292 [.agg f.flat,.agg s.flat] (.tup [.agg S.flat,int e])):
 Fun Tryz.prog 55 [.agg s.flat,.agg f.flat] (.tup [if e=0 then .agg S.flat else fP,int e]):=by
 have kk:=ZT f h
 unfold fP
 by_cases he:e=0
 ·subst he
  rw[if_pos rfl]
  refine af Tryz.func55 fun cx hN hR hF hL=> ?_
  refine' bD tt (I dB (I dC (I dD (I dE (I dF (I dG (I dH k))))))) (lv (fun hq=>o4 fun K hK=> ?_) tt)
  (refine aB [0] (kk) ?_)
  (revert K;refine bK ?_;exact bD tt (I dB (I dC (I dD (I dE (I dF (I dG (I dH kd))))))) tt)
 ·rw[if_neg he]
  refine af Tryz.func55 fun cx hN hR hF hL=> ?_
  refine' bD tt (I dB (I dC (I dD (I dE (I dF (I dG (I dH k))))))) (lv (fun hq=>o4 fun K hK=> ?_) tt)
  (refine aB [0] (kk) ?_)
  (revert K;refine bK ?_;exact bD (I (eq_false he) (decide_eq_false he)) (I dB (I dC (I dD (I dE (I dF (I dG (I dH kd))))))) tt)
theorem Z5 (s:Stt) (f:Fact) (h:f.kind=4) (k:Fun Tryz.prog 107 [.agg s.flat,.agg f.flat] (int 0)) (S:Stt) (e:Int) (kd:Fun Tryz.prog 293 [.agg f.flat,.agg s.flat] (.tup [.agg S.flat,int e])):
 Fun Tryz.prog 55 [.agg s.flat,.agg f.flat] (.tup [if e=0 then .agg S.flat else fP,int e]):=by
 have kk:=ZU f h
 unfold fP
 by_cases he:e=0
 ·subst he
  rw[if_pos rfl]
  refine af Tryz.func55 fun cx hN hR hF hL=> ?_
  refine' bD tt (I dB (I dC (I dD (I dE (I dF (I dG (I dH k))))))) (lv (fun hq=>o4 fun K hK=> ?_) tt)
  (refine aB [0] (kk) ?_)
  (revert K;refine bK ?_;exact bD tt (I dB (I dC (I dD (I dE (I dF (I dG (I dH kd))))))) tt)
 ·rw[if_neg he]
  refine af Tryz.func55 fun cx hN hR hF hL=> ?_
  refine' bD tt (I dB (I dC (I dD (I dE (I dF (I dG (I dH k))))))) (lv (fun hq=>o4 fun K hK=> ?_) tt)
  (refine aB [0] (kk) ?_)
  (revert K;refine bK ?_;exact bD (I (eq_false he) (decide_eq_false he)) (I dB (I dC (I dD (I dE (I dF (I dG (I dH kd))))))) tt)
theorem Z6 (s:Stt) (f:Fact) (h:f.kind=5) (k:Fun Tryz.prog 107 [.agg s.flat,.agg f.flat] (int 0)) (S:Stt) (e:Int) (kd:Fun Tryz.prog 305 [.agg f.flat,.agg s.flat] (.tup [.agg S.flat,int e])):
 Fun Tryz.prog 55 [.agg s.flat,.agg f.flat] (.tup [if e=0 then .agg S.flat else fP,int e]):=by
 have kk:=ZV f h
 unfold fP
 by_cases he:e=0
 ·subst he
  rw[if_pos rfl]
  refine af Tryz.func55 fun cx hN hR hF hL=> ?_
  refine' bD tt (I dB (I dC (I dD (I dE (I dF (I dG (I dH k))))))) (lv (fun hq=>o4 fun K hK=> ?_) tt)
  (refine aB [0] (kk) ?_)
  (revert K;refine bK ?_;exact bD tt (I dB (I dC (I dD (I dE (I dF (I dG (I dH kd))))))) tt)
 ·rw[if_neg he]
  refine af Tryz.func55 fun cx hN hR hF hL=> ?_
  refine' bD tt (I dB (I dC (I dD (I dE (I dF (I dG (I dH k))))))) (lv (fun hq=>o4 fun K hK=> ?_) tt)
  (refine aB [0] (kk) ?_)
  (revert K;refine bK ?_;exact bD (I (eq_false he) (decide_eq_false he)) (I dB (I dC (I dD (I dE (I dF (I dG (I dH kd))))))) tt)
theorem Z7 (s:Stt) (f:Fact) (h:f.kind=6) (k:Fun Tryz.prog 107 [.agg s.flat,.agg f.flat] (int 0)) (S:Stt) (e:Int) (kd:Fun Tryz.prog 307 [.agg f.flat,.agg s.flat] (.tup [.agg S.flat,int e])):
 Fun Tryz.prog 55 [.agg s.flat,.agg f.flat] (.tup [if e=0 then .agg S.flat else fP,int e]):=by
 have kk:=ZW f h
 unfold fP
 by_cases he:e=0
 ·subst he
  rw[if_pos rfl]
  refine af Tryz.func55 fun cx hN hR hF hL=> ?_
  refine' bD tt (I dB (I dC (I dD (I dE (I dF (I dG (I dH k))))))) (lv (fun hq=>o4 fun K hK=> ?_) tt)
  (refine aB [0] (kk) ?_)
  (revert K;refine bK ?_;exact bD tt (I dB (I dC (I dD (I dE (I dF (I dG (I dH kd))))))) tt)
 ·rw[if_neg he]
  refine af Tryz.func55 fun cx hN hR hF hL=> ?_
  refine' bD tt (I dB (I dC (I dD (I dE (I dF (I dG (I dH k))))))) (lv (fun hq=>o4 fun K hK=> ?_) tt)
  (refine aB [0] (kk) ?_)
  (revert K;refine bK ?_;exact bD (I (eq_false he) (decide_eq_false he)) (I dB (I dC (I dD (I dE (I dF (I dG (I dH kd))))))) tt)
theorem Z8 (s:Stt) (f:Fact) (h:f.kind=7) (k:Fun Tryz.prog 107 [.agg s.flat,.agg f.flat] (int 0)) (S:Stt) (e:Int) (kd:Fun Tryz.prog 322 [.agg f.flat,.agg s.flat] (.tup [.agg S.flat,int e])):
 Fun Tryz.prog 55 [.agg s.flat,.agg f.flat] (.tup [if e=0 then .agg S.flat else fP,int e]):=by
 have kk:=ZX f h
 unfold fP
 by_cases he:e=0
 ·subst he
  rw[if_pos rfl]
  refine af Tryz.func55 fun cx hN hR hF hL=> ?_
  refine' bD tt (I dB (I dC (I dD (I dE (I dF (I dG (I dH k))))))) (lv (fun hq=>o4 fun K hK=> ?_) tt)
  (refine aB [0] (kk) ?_)
  (revert K;refine bK ?_;exact bD tt (I dB (I dC (I dD (I dE (I dF (I dG (I dH kd))))))) tt)
 ·rw[if_neg he]
  refine af Tryz.func55 fun cx hN hR hF hL=> ?_
  refine' bD tt (I dB (I dC (I dD (I dE (I dF (I dG (I dH k))))))) (lv (fun hq=>o4 fun K hK=> ?_) tt)
  (refine aB [0] (kk) ?_)
  (revert K;refine bK ?_;exact bD (I (eq_false he) (decide_eq_false he)) (I dB (I dC (I dD (I dE (I dF (I dG (I dH kd))))))) tt)
end
section
attribute [local go_sem] Option.toList_some Option.toList_none Int.reduceEq Int.reduceNe
def qK (c:Change):Bool:=decide ((c.covers.length:Int)≤50)
def qL (v:Version):Bool:=decide ((v.age.length:Int)≤200)&&decide ((v.zone.length:Int)≤200)&&decide ((v.peril.length:Int)≤200)
def kQ (h:History) (T:List Version):Bool:=(decide ((h.changes.length:Int)≤60)&&decide ((T.length:Int)≤100)&&decide ((h.terms.covers.length:Int)≤50))&&(h.changes.all qK&&T.all qL)
theorem Z9 {h:History} {T:List Version} (hf:kQ h T=true):Small h T∧h.changes.length≤60:=by
 simp only[kQ,Bool.and_eq_true,decide_eq_true_eq,List.all_eq_true,qK,qL] at hf
 obtain⟨⟨⟨h1,h2⟩,h3⟩,h4,h5⟩:=hf
 refine⟨⟨⟨by omega,by omega,fun c hc=> ?_⟩,by omega,fun v hv=> ?_⟩,by omega⟩
 ·have:=h4 c hc;omega
 ·have:=h5 v hv;omega
theorem aaa (h:History) (T:List Version):Fun Tryz.prog 67 [.agg h.flat,.agg [dh T]] (bool (kQ h T)):=by
 by_cases a1:(h.changes.length:Int)≤60
 ·have g1:((h.changes.length:Int)>60)=False:=eF
  by_cases a2:(T.length:Int)≤100
  ·have g2:((T.length:Int)>100)=False:=eF
   by_cases a3:(h.terms.covers.length:Int)≤50
   ·have g3:((h.terms.covers.length:Int)>50)=False:=eF
    have hF:kQ h T=(h.changes.all qK&&T.all qL):=by rw[kQ,decide_eq_true a1,decide_eq_true a2,decide_eq_true a3];simp
    rw[hF]
    refine af Tryz.func67 fun cx hN hR hF hL=> ?_
    refine' run (I g1 (I g2 (I g3 (I (decide_eq_false (of_eq_false g1)) (I (decide_eq_false (of_eq_false g2)) (decide_eq_false (of_eq_false g3))))))) (V.l3 fun hq=> ?_)
    refine aX (σ:={i:Nat // i≤h.changes.length∧h.changes.all qK=(h.changes.drop i).all qK}) (fun s=>⟨[(5,int s.1),(2,.ptr 0 0),(3,.ptr 8 0),(4,bool false)],[(0,some ⟨131,h.flat⟩),(8,some ⟨24,[dh T]⟩)],3000⟩) (fun s=>h.changes.length-s.1) id ⟨0,by omega,rfl⟩ ?_ ?_
    ·simp only[go_sem,↓reduceIte,hF]
     all_goals rfl
    ·rintro⟨i,h1,h2⟩
     simp only at h1 h2 ⊢
     by_cases hi:i<h.changes.length
     ·have e1:(h.changes.map Change.flat)[i]? =some (h.changes[i].flat):=by rw[List.getElem?_map,List.getElem?_eq_getElem hi];rfl
      have e2:=wS i
      have b0:((i:Int)<(h.changes.length:Int))=True:=eT
      cases hb:qK h.changes[i]
      ·rw[Ep hi hb]
       have g4:((h.changes[i].covers.length:Int)>50)=True:=eq_true (by simp[qK] at hb;omega)
       generalize h.changes[i]=c at *
       exact run (I b0 (I (decide_eq_true (of_eq_true b0)) (I e1 (I e2 (I g4 (decide_eq_true (of_eq_true g4))))))) tt
      ·rw[Er hi hb] at h2
       have g4:((h.changes[i].covers.length:Int)>50)=False:=eq_false (by simp[qK] at hb;omega)
       generalize h.changes[i]=c at *
       refine' run (I b0 (I (decide_eq_true (of_eq_true b0)) (I e1 (I e2 (I g4 (decide_eq_false (of_eq_false g4))))))) (lv (fun hq=>fun hq=>lf ?_) tt)
       refine⟨⟨i+1,hi,h2⟩,id,?_,mS⟩
       simp only[go_sem,↓reduceIte,hF]
     ·obtain rfl:i=h.changes.length:=byOmega
      have b9:((h.changes.length:Int)<(h.changes.length:Int))=False:=eF
      rw[List.drop_length] at h2
      rw[h2]
      refine' run (I b9 (decide_eq_false (of_eq_false b9))) (V.l3 fun hq=> ?_)
      refine aX (σ:={i:Nat // i≤T.length∧T.all qL=(T.drop i).all qL}) (fun s=>⟨[(6,int s.1),(3,.ptr 8 0),(4,bool false)],[(8,some ⟨24,[dh T]⟩)],5000⟩) (fun s=>T.length-s.1) id ⟨0,by omega,rfl⟩ ?_ ?_
      ·simp only[go_sem,↓reduceIte,hF]
       all_goals rfl
      ·rintro⟨i,g1,g2⟩
       simp only at g1 g2 ⊢
       by_cases hi:i<T.length
       ·have e1:(T.map Version.flat)[i]? =some (T[i].flat):=by rw[List.getElem?_map,List.getElem?_eq_getElem hi];rfl
        have e2:=wS i
        have b0:((i:Int)<(T.length:Int))=True:=eT
        cases hb:qL T[i]
        ·rw[Ep hi hb,Bool.and_false]
         have hv:¬((T[i].age.length:Int)≤200∧(T[i].zone.length:Int)≤200∧(T[i].peril.length:Int)≤200):=fun e=>by
          rw[qL,decide_eq_true e.1,decide_eq_true e.2.1,decide_eq_true e.2.2] at hb
          exact absurd hb ai
         generalize T[i]=v at *
         by_cases p1:(v.age.length:Int)>200
         ·exact run (I b0 (I (decide_eq_true (of_eq_true b0)) (I e1 (I e2 (I (eq_true p1) (decide_eq_true p1)))))) tt
         ·by_cases p2:(v.zone.length:Int)>200
          ·exact run (I b0 (I (decide_eq_true (of_eq_true b0)) (I e1 (I e2 (I (eq_false p1) (I (decide_eq_false p1) (I (eq_true p2) (decide_eq_true p2)))))))) tt
          ·have p3:(v.peril.length:Int)>200:=byOmega
           exact run (I b0 (I (decide_eq_true (of_eq_true b0)) (I e1 (I e2 (I (eq_false p1) (I (decide_eq_false p1) (I (eq_false p2) (I (decide_eq_false p2) (I (eq_true p3) (decide_eq_true p3)))))))))) tt
        ·rw[Er hi hb] at g2
         have hv:(v:Version)→v=T[i]→((v.age.length:Int)>200)=False∧((v.zone.length:Int)>200)=False∧((v.peril.length:Int)>200)=False:=fun v hv=>by
          subst hv;simp[qL] at hb;simp;omega
         obtain⟨q1,q2,q3⟩:=hv _ rfl
         generalize T[i]=v at *
         refine' run (I b0 (I (decide_eq_true (of_eq_true b0)) (I e1 (I e2 (I q1 (I q2 (I q3 (I (decide_eq_false (of_eq_false q1)) (I (decide_eq_false (of_eq_false q2)) (decide_eq_false (of_eq_false q3))))))))))) (lv (fun hq=>fun hq=>lf ?_) tt)
         refine⟨⟨i+1,hi,g2⟩,id,?_,mS⟩
         simp only[go_sem,↓reduceIte,hF]
       ·obtain rfl:i=T.length:=byOmega
        have b9:((T.length:Int)<(T.length:Int))=False:=eF
        rw[List.drop_length] at g2
        rw[g2]
        exact run (I b9 (decide_eq_false (of_eq_false b9))) tt
   ·have g3:((h.terms.covers.length:Int)>50)=True:=eT
    have hF:kQ h T=false:=by rw[kQ,decide_eq_false a3];simp
    rw[hF]
    refine af Tryz.func67 fun cx hN hR hF hL=> ?_
    exact run (I g1 (I g2 (I g3 (I (decide_eq_false (of_eq_false g1)) (I (decide_eq_false (of_eq_false g2)) (decide_eq_true (of_eq_true g3))))))) tt
  ·have g2:((T.length:Int)>100)=True:=eT
   have hF:kQ h T=false:=by rw[kQ,decide_eq_false a2];simp
   rw[hF]
   refine af Tryz.func67 fun cx hN hR hF hL=> ?_
   exact run (I g1 (I g2 (I (decide_eq_false (of_eq_false g1)) (decide_eq_true (of_eq_true g2))))) tt
 ·have g1:((h.changes.length:Int)>60)=True:=eT
  have hF:kQ h T=false:=by rw[kQ,decide_eq_false a1];simp
  rw[hF]
  refine af Tryz.func67 fun cx hN hR hF hL=> ?_
  exact run (I g1 (decide_eq_true (of_eq_true g1))) tt
end
theorem BM {α:Type} {l:List α} {i:Nat} {x y:α}:y∈aZ l i x↔y=x∨y∈l:=by
 rw[aZ,List.mem_append,List.mem_cons]
 constructor
 ·rintro(h|h|h)
  ·exact .inr (List.mem_of_mem_take h)
  ·exact .inl h
  ·exact .inr (List.mem_of_mem_drop h)
 ·rintro(h|h)
  ·exact .inr (.inl h)
  ·rw[←List.take_append_drop i l,List.mem_append] at h
   rcases h with h|h
   ·exact .inl h
   ·exact .inr (.inr h)
theorem Fz {α:Type} (l:List α) (i:Nat) (x:α):(aZ l i x).length=l.length+1:=by
 rw[aZ,List.length_append,List.length_cons,List.length_take,List.length_drop]
 omega
noncomputable def bP (s:Stt) (f:Fact):Stt×Int:=
 if f.kind=1 then sM s f else if f.kind=2 then sQ s f else if f.kind=3 then sI s f else if f.kind=4 then sN s f else if f.kind=5 then sJ s f else if f.kind=6 then sW s f else sH s f
def qM (s:Stt) (f:Fact):Int:=if f.right=true then(if f.booked≤s.closed then 12 else 0) else 1
noncomputable def lS (s:Stt) (f:Fact):Int:=if qM s f=0 then(bP s f).2 else qM s f
noncomputable def doX (s:Stt) (f:Fact):Stt:=if lS s f=0 then(bP s f).1 else s
noncomputable def lT (on:Int) (s:Stt) (l:List Fact):Stt:=l.foldl (fun s f=>if on<f.booked then s else doX s f) s
theorem FB (on:Int) (s:Stt) (l:List Fact) (f:Fact):lT on s (l++[f])=if on<f.booked then lT on s l else doX (lT on s l) f:=by simp[lT]
structure TSz (T:List Version):Prop where
 t:T.length≤1000
 v:∀v,v∈T→v.age.length≤1000∧v.zone.length≤1000∧v.peril.length≤1000
structure FSz (f:Fact):Prop where
 t:f.terms.covers.length≤50
 c:f.change.covers.length≤50
structure Sz (n:Nat) (T:List Version) (s:Stt):Prop where
 tr:s.tariff=T
 acc:s.acc.length≤n
 fil:s.files.length≤n
 tre:s.tre.length≤n
 his:∀a,a∈s.acc→a.h.terms.covers.length≤50∧a.h.changes.length≤n∧∀c,c∈a.h.changes→c.covers.length≤50
 act:∀f,f∈s.files→f.acts.length≤n
theorem Sz.mono {n m:Nat} {T:List Version} {s:Stt} (h:Sz n T s) (hnm:n≤m):Sz m T s:=
 ⟨h.tr,Nat.le_trans h.acc hnm,Nat.le_trans h.fil hnm,Nat.le_trans h.tre hnm,fun a ha=>⟨(h.his a ha).1,Nat.le_trans (h.his a ha).2.1 hnm,(h.his a ha).2.2⟩,fun f hf=>Nat.le_trans (h.act f hf) hnm⟩
theorem Sz.new (T:List Version):Sz 0 T ⟨T,[],[],[],0⟩:=⟨rfl,by simp,by simp,by simp,by simp,by simp⟩
theorem TSz.ok {T:List Version} (h:TSz T):TOk T:=⟨by have:=h.t;omega,fun v hv=>by have:=h.v v hv;omega⟩
theorem Sz.small {n:Nat} {T:List Version} {s:Stt} (h:Sz n T s) (hn:n≤300) (hT:TSz T) {a:Acct} (ha:a∈s.acc):Small a.h s.tariff:=by
 have:=h.his a ha
 rw[h.tr]
 exact⟨⟨by omega,by omega,fun c hc=>by have:=this.2.2 c hc;omega⟩,hT.t,hT.v⟩
theorem Sz.hok {n:Nat} {T:List Version} {s:Stt} (h:Sz n T s) (hn:n≤300) (hT:TSz T) {f:Fact} (hf:FSz f) {a:Acct} (ha:a∈s.acc):HOk (iT a.h f.change) s.tariff:=by
 have h1:=h.his a ha
 have h2:=hf.c
 rw[h.tr]
 refine⟨?_,?_,?_,by have:=hT.t;omega,fun v hv=>by have:=hT.v v hv;omega⟩
 ·unfold iT;split
  ·simp;omega
  ·simp[bg]
 ·unfold iT;split
  ·simp;omega
  ·simp[bg,fG]
 ·unfold iT;split
  ·intro c hc
   rw[List.mem_append,List.mem_singleton] at hc
   rcases hc with hc|rfl
   ·have:=h1.2.2 c hc;omega
   ·omega
  ·simp[bg]
theorem FC {h:History} {T:List Version} {b:Int} {n:Nat} (h1:h.terms.covers.length≤n) (h2:∀c,c∈h.changes→c.covers.length≤n):∀s,s∈kS h T b→s.st.covers.length≤n:=by
 intro s hs
 unfold kS at hs
 split at hs
 ·simp at hs
 ·by_cases he:gz (oM h b) T=0
  ·obtain⟨hr,v,-,hS⟩:=Bg he
   rw[hS,List.mem_map] at hs
   obtain⟨x,hx,rfl⟩:=hs
   exact EI (P:=fun l=>l.length≤n) hr h1 (fun c hc=>h2 c ((List.mem_filter.1 hc).1)) x hx
  ·rw[yf he] at hs;simp at hs
theorem Sz.cov {n:Nat} {T:List Version} {s:Stt} (h:Sz n T s) (hn:n≤300) (hT:TSz T) {a:Acct} (ha:a∈s.acc) (c:Claim):CovOk a.h s.tariff c:=by
 have h1:=h.his a ha
 refine⟨h.small hn hT ha,?_,fun x hx=> ?_⟩
 ·have:=EK (h:=a.h) (T:=s.tariff) (b:=c.booked);omega
 ·have:=FC (n:=50) h1.1 h1.2.2 x hx;omega
theorem Sz.step {n:Nat} {T:List Version} {s:Stt} (h:Sz n T s) {f:Fact} (hf:FSz f) (he:lS s f=0):Sz (n+1) T (bP s f).1:=by
 have hm:=h.mono (Nat.le_succ n)
 have he:(bP s f).2=0:=by
  unfold lS at he
  split at he
  ·exact he
  ·contradiction
 unfold bP at he ⊢
 split
 ·rename_i hk
  rw[if_pos hk] at he
  unfold sM at he ⊢
  split
  ·rename_i i hx;rw[hx] at he;simp at he
  ·rename_i hx
   rw[hx] at he
   simp only at he
   split
   ·rename_i h2;rw[if_pos h2] at he;simp at he
   ·refine⟨hm.tr,?_,hm.fil,hm.tre,?_,hm.act⟩
    ·show(aZ _ _ _).length≤_
     rw[Fz]
     have:=h.acc;omega
    ·intro a ha
     rcases BM.1 ha with rfl|ha
     ·simp only[l5]
      split
      ·exact⟨hf.t,by simp,by simp⟩
      ·exact⟨by simp[bg,fG],by simp[bg],by simp[bg]⟩
     ·exact hm.his a ha
 split
 ·rename_i h1 hk
  rw[if_neg h1,if_pos hk] at he
  unfold sQ at he ⊢
  split
  ·rename_i hx;rw[hx] at he;simp at he
  ·rename_i i hx
   rw[hx] at he
   simp only at he
   split
   ·rename_i h2;rw[if_pos h2] at he;simp at he
   ·rename_i h2
    rw[if_neg h2] at he
    split
    ·rename_i a ha
     rw[ha] at he
     simp only at he
     have hp:ik a.h f.change=0:=by
      unfold yw at he
      split at he
      ·assumption
      ·exact he
     have hma:=List.mem_of_getElem? ha
     refine⟨hm.tr,by simpa using hm.acc,hm.fil,hm.tre,?_,hm.act⟩
     intro b hb
     rcases List.mem_or_eq_of_mem_set hb with hb|rfl
     ·exact hm.his b hb
     ·rw[iT,if_pos hp]
      have h3:=h.his a hma
      refine⟨h3.1,by simp;omega,fun c hc=> ?_⟩
      rw[List.mem_append,List.mem_singleton] at hc
      rcases hc with hc|rfl
      ·exact h3.2.2 c hc
      ·exact hf.c
    ·rename_i ha;rw[ha] at he;simp at he
 split
 ·rename_i h1 h2 hk
  rw[if_neg h1,if_neg h2,if_pos hk] at he
  unfold sI at he ⊢
  split
  ·rename_i hx;rw[hx] at he;simp at he
  ·rename_i i hx
   rw[hx] at he
   simp only at he
   split
   ·rename_i a ha
    rw[ha] at he
    simp only at he
    split
    ·rename_i h5;rw[if_pos h5] at he;simp at he
    ·refine⟨hm.tr,by simpa using hm.acc,hm.fil,hm.tre,?_,hm.act⟩
     intro b hb
     rcases List.mem_or_eq_of_mem_set hb with hb|rfl
     ·exact hm.his b hb
     ·exact hm.his a (List.mem_of_getElem? ha)
   ·rename_i ha;rw[ha] at he;simp at he
 split
 ·rename_i h1 h2 h3 hk
  rw[if_neg h1,if_neg h2,if_neg h3,if_pos hk] at he
  unfold sN at he ⊢
  split
  ·rename_i i hx;rw[hx] at he;simp at he
  ·rename_i hx
   rw[hx] at he
   simp only at he
   split
   ·rename_i h2;rw[if_pos h2] at he;simp at he
   ·rename_i h2
    rw[if_neg h2] at he
    split
    ·rename_i ha;rw[ha] at he;simp at he
    ·refine⟨hm.tr,hm.acc,?_,hm.tre,hm.his,?_⟩
     ·show(aZ _ _ _).length≤_
      rw[Fz]
      have:=h.fil;omega
     ·intro g hg
      rcases BM.1 hg with rfl|hg
      ·simp
      ·exact hm.act g hg
 split
 ·rename_i h1 h2 h3 h4 hk
  rw[if_neg h1,if_neg h2,if_neg h3,if_neg h4,if_pos hk] at he
  unfold sJ at he ⊢
  split
  ·rename_i hx;rw[hx] at he;simp at he
  ·rename_i i hx
   rw[hx] at he
   simp only at he
   split
   ·rename_i a ha
    rw[ha] at he
    simp only at he
    refine⟨hm.tr,hm.acc,by simpa using hm.fil,hm.tre,hm.his,?_⟩
    intro b hb
    rcases List.mem_or_eq_of_mem_set hb with hb|rfl
    ·exact hm.act b hb
    ·rw[mq,if_pos he]
     have:=h.act a (List.mem_of_getElem? ha)
     simp;omega
   ·rename_i ha;rw[ha] at he;simp at he
 split
 ·rename_i h1 h2 h3 h4 h5 hk
  rw[if_neg h1,if_neg h2,if_neg h3,if_neg h4,if_neg h5,if_pos hk] at he
  unfold sW at he ⊢
  split
  ·rename_i h6;rw[if_pos h6] at he;simp at he
  split
  ·rename_i h6 h7;rw[if_neg h6,if_pos h7] at he;simp at he
  split
  ·rename_i h6 h7 h8;rw[if_neg h6,if_neg h7,if_pos h8] at he;simp at he
  ·refine⟨hm.tr,hm.acc,hm.fil,?_,hm.his,hm.act⟩
   show(aZ _ _ _).length≤_
   rw[Fz]
   have:=h.tre;omega
 ·unfold sH
  split
  ·exact hm
  ·exact⟨hm.tr,hm.acc,hm.fil,hm.tre,hm.his,hm.act⟩
theorem Sz.doX {n:Nat} {T:List Version} {s:Stt} (h:Sz n T s) {f:Fact} (hf:FSz f):Sz (n+1) T (doX s f):=by
 unfold V.doX
 split
 ·rename_i he;exact h.step hf he
 ·exact h.mono (Nat.le_succ n)
theorem Sz.of {T:List Version} {on:Int} {l:List Fact} (hl:∀f,f∈l→FSz f):∀i,i≤l.length→Sz i T (lT on ⟨T,[],[],[],0⟩ (l.take i)):=by
 intro i
 induction i with
 |zero=>intro _;exact Sz.new T
 |succ i ih=>
  intro hi
  have h0:i<l.length:=hi
  rw[List.take_add_one,List.getElem?_eq_getElem h0,Option.toList_some,FB]
  split
  ·exact(ih byOmega).mono (Nat.le_succ i)
  ·exact(ih byOmega).doX (hl _ (List.getElem_mem h0))
section
attribute [local go_sem] Option.toList_some Option.toList_none Int.reduceEq Int.reduceNe
theorem ML {s:Stt} {f:Fact} (h:qM s f=0):f.right=true∧¬f.booked≤s.closed:=by
 unfold qM at h
 split at h
 ·rename_i h1
  split at h
  ·simp at h
  ·rename_i h2;exact⟨h1,h2⟩
 ·simp at h
theorem MM {f:Fact} (h:f.right=true):1≤f.kind∧f.kind≤7:=by
 have h:f.asks=true:=by
  unfold Fact.right at h
  simp only[Bool.and_eq_true] at h
  exact h.2
 unfold Fact.asks at h
 repeat'(split at h;·omega)
 simp at h
theorem aab {n:Nat} {T:List Version} {s:Stt} {f:Fact} (hn:n≤300) (hT:TSz T) (hs:Sz n T s) (hf:FSz f):Fun Tryz.prog 55 [.agg s.flat,.agg f.flat] (.tup [if lS s f=0 then .agg (bP s f).1.flat else fP,int (lS s f)]):=by
 have km:Fun Tryz.prog 107 [.agg s.flat,.agg f.flat] (int (qM s f)):=X4 s f
 by_cases hm:qM s f=0
 ·have h17:=MM (ML hm).1
  have he:lS s f=(bP s f).2:=if_pos hm
  rw[hm] at km
  rw[he]
  have a1:=hs.acc
  have a2:=hs.fil
  have a3:=hs.tre
  have f1:=hf.t
  have f2:=hf.c
  have h:f.kind=1∨f.kind=2∨f.kind=3∨f.kind=4∨f.kind=5∨f.kind=6∨f.kind=7:=byOmega
  rcases h with h|h|h|h|h|h|h
  ·rw[show bP s f=sM s f by unfold bP;rw[if_pos h]]
   exact ZZ s f h km _ _ (YD s f (hs.tr▸hT.ok) byOmega byOmega)
  ·rw[show bP s f=sQ s f by unfold bP;rw[if_neg byOmega,if_pos h]]
   exact Z0 s f h km _ _ (YH s f byOmega byOmega byOmega (fun a ha=>by have:=(hs.his a ha).1;omega) (fun a ha=>hs.hok hn hT hf ha))
  ·rw[show bP s f=sI s f by unfold bP;rw[if_neg byOmega,if_neg byOmega,if_pos h]]
   exact Z4 s f h km _ _ (Yy s f byOmega)
  ·rw[show bP s f=sN s f by unfold bP;rw[if_neg byOmega,if_neg byOmega,if_neg byOmega,if_pos h]]
   exact Z5 s f h km _ _ (YE s f byOmega byOmega (fun a ha=>hs.cov hn hT ha f.claim))
  ·rw[show bP s f=sJ s f by unfold bP;rw[if_neg byOmega,if_neg byOmega,if_neg byOmega,if_neg byOmega,if_pos h]]
   exact Z6 s f h km _ _ (Yz s f byOmega (fun g hg=>by have:=hs.act g hg;omega))
  ·rw[show bP s f=sW s f by unfold bP;rw[if_neg byOmega,if_neg byOmega,if_neg byOmega,if_neg byOmega,if_neg byOmega,if_pos h]]
   exact Z7 s f h km _ _ (YQ s f byOmega)
  ·rw[show bP s f=sH s f by unfold bP;rw[if_neg byOmega,if_neg byOmega,if_neg byOmega,if_neg byOmega,if_neg byOmega,if_neg byOmega]]
   exact Z8 s f h km _ _ (Yx s f)
 ·have he:lS s f=qM s f:=if_neg hm
  rw[he,if_neg hm]
  exact ZY s f _ km hm
theorem aac (T:List Version):Fun Tryz.prog 54 [.agg [dh T]] (.agg (Stt.flat ⟨T,[],[],[],0⟩)):=by
 refine af Tryz.func54 fun cx hN hR hF hL=> ?_
 exact run tt tt
end
section
theorem FD {p:Nat→Bool} {r:Nat→Nat} {box:ay}:∀ {l:ay},(∀b x,(b,some x)∈l→ah box (r b)=some ⟨x.t,x.cs.map (AV.ren r)⟩∧p b=true∧x.cs.all (AV.names p)=true)→gY p r box l
 | [],_=>True.intro
 |(b,some x)::l,h=>⟨h b x ai,FD fun c y hy=>h c y (by simp[hy])⟩
 |(b,none)::l,h=>FD (l:=l) fun c y hy=>h c y (by simp[hy])
theorem tF {r:Nat→Nat}:∀ {l:ay},(∀b x c y,(b,x)∈l→(c,y)∈l→r b=r c→b=c)→xe r l
 | [],_=>True.intro
 |(b,x)::l,h=>⟨List.all_eq_true.2 fun q hq=>decide_eq_true fun e=>h b x q.1 q.2 ai (by simp[hq]) e,tF fun c y d z h1 h2 e=>h c y d z (by simp[h1]) (by simp[h2]) e⟩
def fe {α:Type} (T:TypeId) (F:α→List AV) (B:Nat):List (List α)→ay
 | []=>[]
 |x::l=>(B,if x.isEmpty then none else some ⟨T,aa F x⟩)::fe T F (B+1) l
theorem FE {α:Type} {T:TypeId} {F:α→List AV}:∀ {l:List (List α)} {B b:Nat} {x:Option Bx},(b,x)∈fe T F B l→∃i r,l[i]? =some r∧b=B+i∧x=if r.isEmpty then none else some ⟨T,aa F r⟩
 | [],_,_,_,h=>by simp[fe] at h
 |y::l,B,b,x,h=>by
  rcases List.mem_cons.1 h with h|h
  ·injection h with h1 h2;exact⟨0,y,rfl,h1,h2⟩
  ·obtain⟨i,r,h1,h2,h3⟩:=FE h
   exact⟨i+1,r,h1,by omega,h3⟩
theorem qN {α:Type} {T:TypeId} {F:α→List AV}:∀ {l:List (List α)} {B i:Nat} {r:List α},l[i]? =some r→ah (fe T F B l) (B+i)=if r.isEmpty then none else some ⟨T,aa F r⟩
 | [],_,_,_,h=>by simp at h
 |y::l,B,0,r,h=>by
  injection h with h
  subst h
  rw[fe,bq,Nat.add_zero,if_pos rfl]
 |y::l,B,i+1,r,h=>by
  rw[fe,bq,if_neg byOmega,show B+(i+1)=B+1+i by omega]
  exact qN h
theorem FH {α:Type} {T:TypeId} {F:α→List AV} {l:List (List α)} {B b:Nat} {x:Option Bx} (h:(b,x)∈fe T F B l):B≤b∧b<B+l.length:=by
 obtain⟨i,r,h1,h2,-⟩:=FE h
 have:=(List.getElem?_eq_some_iff.1 h1).1
 omega
def aS {α β:Type} (F:β→α→List AV) (nm:Nat→β):List α→List AV
 | []=>[]
 |x::l=>F (nm 0) x++aS F (fun j=>nm (j+1)) l
section
variable {α β:Type} {F:β→α→List AV}
theorem qO {k:Nat} (hF:∀b x,(F b x).length=k):∀(l:List α) (nm:Nat→β),(aS F nm l).length=l.length*k
 | [],_=>by simp[aS]
 |x::l,nm=>by rw[aS,List.length_append,hF,qO hF l,List.length_cons,Nat.add_mul];omega
theorem MN:∀(l:List α) (x:α) (nm:Nat→β),aS F nm (l++[x])=aS F nm l++F (nm l.length) x
 | [],x,nm=>by simp[aS]
 |y::l,x,nm=>by rw[List.cons_append,aS,MN l x,aS,List.append_assoc];rfl
theorem tH:∀ {l:List α} {nm nm':Nat→β},(∀j,j<l.length→nm j=nm' j)→aS F nm l=aS F nm' l
 | [],_,_,_=>rfl
 |x::l,nm,nm',h=>by
  rw[aS,aS,h 0 ai,tH (l:=l) fun j hj=>h (j+1) (by simpa using hj)]
theorem o9 {r:Nat→Nat} {q:β→β} (hF:∀b x,(F b x).map (AV.ren r)=F (q b) x):∀(l:List α) (nm:Nat→β),(aS F nm l).map (AV.ren r)=aS F (fun j=>q (nm j)) l
 | [],_=>rfl
 |x::l,nm=>by rw[aS,List.map_append,hF,o9 hF l];rfl
theorem pg {p:Nat→Bool}:∀ {l:List α} {nm:Nat→β},(∀j x,j<l.length→(F (nm j) x).all (AV.names p)=true)→(aS F nm l).all (AV.names p)=true
 | [],_,_=>rfl
 |x::l,nm,h=>by
  rw[aS,List.all_append,h 0 x ai,pg (l:=l) fun j y hj=>h (j+1) y (by simpa using hj)]
  rfl
theorem BN {k:Nat} (hF:∀b x,(F b x).length=k):∀ {l:List α} {nm:Nat→β} {i j:Nat} {x:α},l[i]? =some x→j<k→(aS F nm l)[i*k+j]? =(F (nm i) x)[j]?
 | [],_,_,_,_,h,_=>by simp at h
 |y::l,nm,0,j,x,h,hj=>by
  injection h with h
  subst h
  rw[aS,Nat.zero_mul,Nat.zero_add,List.getElem?_append_left (by rw[hF];exact hj)]
 |y::l,nm,i+1,j,x,h,hj=>by
  rw[aS,List.getElem?_append_right (by rw[hF,Nat.add_mul];omega),hF,show(i+1)*k+j-k=i*k+j by rw[Nat.add_mul];omega]
  exact BN hF (by simpa using h) hj
theorem MO {A B xs:List AV} {o:Nat} (h:A.length≤o):splice (A++B) o xs=A++splice B (o-A.length) xs:=by
 unfold splice
 rw[List.take_append,List.take_of_length_le h,List.drop_append,List.drop_eq_nil_of_le byOmega,List.nil_append,List.append_assoc,List.append_assoc,List.append_assoc,show o+xs.length-A.length=o-A.length+xs.length by omega]
theorem aad {A B xs:List AV} {o:Nat} (h:o+xs.length≤A.length):splice (A++B) o xs=splice A o xs++B:=by
 unfold splice
 rw[List.take_append_of_le_length byOmega,List.drop_append_of_le_length byOmega,List.append_assoc,List.append_assoc,List.append_assoc]
theorem BO {k:Nat} (hF:∀b x,(F b x).length=k) {o:Nat} {xs:List AV} {b:β} {y:α} (ho:o+xs.length≤k):∀ {l:List α} {nm:Nat→β} {i:Nat} {x:α},l[i]? =some x→splice (F (nm i) x) o xs=F b y→
 splice (aS F nm l) (i*k+o) xs=aS F (fun j=>if j=i then b else nm j) (l.set i y)
 | [],_,_,_,h,_=>by simp at h
 |z::l,nm,0,x,h,he=>by
  injection h with h
  subst h
  rw[aS,Nat.zero_mul,Nat.zero_add,aad (by rw[hF];exact ho),he,List.set_cons_zero,aS,if_pos rfl]
  congr 1
 |z::l,nm,i+1,x,h,he=>by
  have hle:(F (nm 0) z).length≤(i+1)*k+o:=by rw[hF,Nat.add_mul];omega
  rw[aS,MO hle,hF,show(i+1)*k+o-k=i*k+o by rw[Nat.add_mul];omega,BO hF ho (l:=l) (nm:=fun j=>nm (j+1)) (by simpa using h) he,List.set_cons_succ,aS,if_neg byOmega]
  congr 1
  exact tH fun j _=>by simp
end
def cZ (a b:Nat) (x:Nat):Nat:=if x=a then b else if x=b then a else x
theorem mr {a b x y:Nat} (h:cZ a b x=cZ a b y):x=y:=by
 unfold cZ at h
 repeat' split at h
 all_goals omega
theorem mD (a b:Nat):cZ a b a=b:=if_pos rfl
theorem bv {a b x:Nat} (h1:x≠a) (h2:x≠b):cZ a b x=x:=by rw[cZ,if_neg h1,if_neg h2]
theorem qP {r:Nat→Nat} {l:List AV} (h:l.all AV.isData=true):l.map (AV.ren r)=l:=by
 rw[List.all_eq_true] at h
 conv=>rhs;rw[←List.map_id l]
 exact List.map_congr_left fun x hx=>vk x (h x hx)
theorem pq {α:Type} {F:α→List AV} (hF:∀x,(F x).all AV.isData=true) (l:List α):(aa F l).all AV.isData=true:=by
 rw[aa,List.all_flatten,List.all_map]
 exact List.all_eq_true.2 fun x _=>hF x
theorem BP {α:Type} {p:Nat→Bool} {r:Nat→Nat} {box:ay} {T:TypeId} {F:α→List AV} {B:Nat} {L:List (List α)} (hF:∀x,(F x).all AV.isData=true)
 (h:∀j y,L[j]? =some y→y≠ []→ah box (r (B+j))=some ⟨T,aa F y⟩) (hp:∀b,B≤b→b<B+L.length→p b=true):gY p r box (fe T F B L):=by
 refine FD fun b x hb=> ?_
 obtain⟨i,y,h1,rfl,h3⟩:=FE hb
 have hi:=(List.getElem?_eq_some_iff.1 h1).1
 cases y with
 |nil=>simp at h3
 |cons a y=>
  simp only[List.isEmpty_cons,Bool.false_eq_true,if_false,Option.some.injEq] at h3
  subst h3
  have hd:=pq hF (a::y)
  exact⟨by rw[h i _ h1 ai,qP hd],hp _ byOmega byOmega,jv hd _⟩
theorem FI {α β:Type} {F:β→α→List AV} {G:α→List AV} {R:AV→AV→Prop}:∀ {l:List α} {nm:Nat→β},(∀i x,l[i]? =some x→dx R (F (nm i) x) (G x))→dx R (aS F nm l) (l.map G).flatten
 | [],_,_=>True.intro
 |x::l,nm,h=>by
  rw[aS,List.map_cons,List.flatten_cons]
  have key:∀ {a b c d:List AV},dx R a c→dx R b d→dx R (a++b) (c++d):=by
   intro a
   induction a with
   |nil=>intro b c d h1 h2;cases c with
    |nil=>exact h2
    |cons=>exact h1.elim
   |cons x a ih=>intro b c d h1 h2;cases c with
    |nil=>exact h1.elim
    |cons y c=>exact⟨h1.1,ih h1.2 h2⟩
  exact key (h 0 x rfl) (FI (l:=l) fun i y hy=>h (i+1) y hy)
end
end Go.Proofs.YtlikpcpllahalaaGreat.V
