/- Parts of the proof. -/
import Derived.Test.YtlikpcpllahalaaGreatG16
import Derived.Test.YtlikpcpllahalaaGreatG33
import Derived.Test.YtlikpcpllahalaaGreatG28
import Derived.Shelf.Spec.SlicesGrow
import Derived.Test.YtlikpcpllahalaaGreatG21
set_option maxHeartbeats 16000000
set_option linter.unusedSimpArgs false
set_option linter.unusedVariables false
namespace Go.Proofs.YtlikpcpllahalaaGreat.V
open Go.RowKit
set_option maxRecDepth 100000
section
attribute [local go_sem] Option.toList_some Option.toList_none Int.reduceEq Int.reduceNe
def gB (day:Int):Int:=min (max day 1) 292195
theorem V9 {f:dJ} {a b n:Int} (hr:gM 0 0 f=true) (hv:∀p,p∈f→0≤p.2) (hab:a<b) (h:oC f a b=some n):0≤n∧n≤4000000000000000000:=by
 rw[SL (rR hr) hab] at h
 split at h
 ·rename_i h1
  have h2:xE f a b=n:=Option.some.inj h
  subst h2
  refine⟨Eb (fun x=> ?_) _,Int.le_trans SN.2 h1⟩
  have key:∀(f:dJ) (v:Int),0≤v→(∀p,p∈f→0≤p.2)→0≤bH v f x:=by
   intro f
   induction f with
   |nil=>intro v h0 _;exact h0
   |cons p l ih=>
    intro v h0 hv
    rw[bH]
    refine ih _ ?_ fun q hq=>hv q (List.mem_cons_of_mem _ hq)
    split
    ·exact hv p ai
    ·exact h0
  exact key f 0 (Int.le_refl 0) hv
 ·cases h
theorem Wd (a v:List Int) (day:Int) (h:gB day=1):Fun Tryz.prog 179 [.agg [ints a,ints v],int day] (int 0):=by
 have h0:min (max day 1) 292195=1:=h
 refine af Tryz.func179 fun cx hN hR hF hL=> ?_
 exact run h0 tt
theorem We (a v:List Int) (day n:Int) (hl:a.length≤1000) (h:gB day≠1) (hs:(if iY a v=true∧lM 1 (gB day)=true then u7 (oC (a.zip v) 1 (gB day)) else[int 0,int 1])=[int n,int 0]) (h0:0≤n) (h1:n≤4000000000000000000):
 Fun Tryz.prog 179 [.agg [ints a,ints v],int day] (int (l7 n 1 365)):=by
 have cs:=Lt a v 1 (gB day) hl
 rw[hs] at cs
 have ce:=KC n 1 365 h0 byOmega byOmega byOmega byOmega byOmega
 have he:l8 n 1 365=0:=by
  have:=EC (n*1/365) (n*1%365) 365
  unfold l8 uR
  rw[if_neg byOmega]
 rw[he] at ce
 unfold gB at cs h
 refine af Tryz.func179 fun cx hN hR hF hL=> ?_
 exact aj (I (eq_false h) (decide_eq_false h)) (I cs (I Vr ce)) tt
theorem Lu (a v:List Int) (day x e:Int) (hl:a.length≤1000) (h:gB day≠1) (hs:(if iY a v=true∧lM 1 (gB day)=true then u7 (oC (a.zip v) 1 (gB day)) else[int 0,int 1])=[int x,int e]) (he:e≠0):
 mR Tryz.prog 179 [.agg [ints a,ints v],int day] (mh e):=by
 have cs:=Lt a v 1 (gB day) hl
 rw[hs] at cs
 unfold gB at cs h
 refine Sn Tryz.func179 rfl (Nat.le_of_ble_eq_true rfl) fun cx hN hR hF hL=> ?_;apply dS;(case hA=>(simp only[go_sem,↓reduceIte];rfl))
 (refine aD ?_)
 refine' run tt (V.l1 ?_)
 (refine aD ?_)
 refine' run tt (V.l1 ?_)
 (refine aD ?_)
 refine' run (I (eq_false h) (decide_eq_false h)) (V.l3 fun hq=> ?_)
 (refine aD ?_)
 refine' aj tt cs (V.l1 ?_)
 refine eX ?_
 refine mU 1 (ch:=mh e) (by simp only[List.take_succ_cons,List.take_zero];rfl) rfl (by rw[hN];kernel_rfl) rfl ?_
 intro K hK
 (revert K;refine bK ?_;refine' run tt (V.l1 ?_))
 all_goals exact⟨lu rfl rfl H9 rfl (by simp[go_sem]) (K7 he),rfl⟩
theorem EX (a v:List Int) (day:Int) (hl:a.length≤1000) (hv:∀x,x∈v→0≤x):(∃n,Fun Tryz.prog 179 [.agg [ints a,ints v],int day] (int n))∨mR Tryz.prog 179 [.agg [ints a,ints v],int day] (mh (if iY a v=true then 5 else 1)):=by
 by_cases h:gB day=1
 ·exact .inl ⟨0,Wd a v day h⟩
 have hT:lM 1 (gB day)=true:=by
  have h1:1≤gB day∧gB day≤292195:=by unfold gB;omega
  simp[lM];omega
 have hT2:1<gB day:=by
  have h1:1≤gB day:=by unfold gB;omega
  omega
 by_cases hr:iY a v=true
 ·rw[if_pos hr]
  cases hs:oC (a.zip v) 1 (gB day) with
  |some n=>
   have hr':=hr
   simp only[iY,Bool.and_eq_true] at hr'
   obtain⟨h0,h1⟩:=V9 hr'.2 (fun p hp=>hv p.2 (List.of_mem_zip hp).2) hT2 hs
   exact .inl ⟨_,We a v day n hl h (by rw[if_pos ⟨hr,hT⟩,hs];rfl) h0 h1⟩
  |none=>exact .inr (Lu a v day 0 5 hl h (by rw[if_pos ⟨hr,hT⟩,hs];rfl) byOmega)
 ·rw[if_neg hr]
  exact .inr (Lu a v day 0 1 hl h (by rw[if_neg (fun h=>hr h.1)]) byOmega)
theorem Wh (l:List Sl) (a v:List Int) (day n:Int) (hc:Fun Tryz.prog 177 [cK l] (.agg [ints a,ints v])) (hu:Fun Tryz.prog 179 [.agg [ints a,ints v],int day] (int n)):Fun Tryz.prog 149 [cK l,int day] (.tup [int n,int 0]):=by
 refine jO 0 (ns:=[8]) (g:=176) Tryz.func149 rfl (Nat.le_of_ble_eq_true rfl) ui uX ai (List.take_zero ..) rfl rfl aA rfl fun cx hN hR hF hL=> ?_
 apply dS;(case hA=>(simp only[go_sem,↓reduceIte];rfl))
 refine aL ?_
 refine' run tt (V.l1 ?_)
 refine⟨rfl,(fun h=>by cases h),⟨⟨_,_,[],[],rfl,rfl,.inr ⟨rfl,rfl,rfl⟩,rfl⟩,rfl,rfl⟩,(by simp[ah,ax]),fun cx' hN hR hF=> ?_⟩
 dsimp only
 refine aL ?_
 refine' aj tt (I hc hu) (V.l1 ?_)
 refine DW ?_
 exact run tt tt
theorem Wi (l:List Sl) (a v:List Int) (day e:Int) (hc:Fun Tryz.prog 177 [cK l] (.agg [ints a,ints v])) (hu:mR Tryz.prog 179 [.agg [ints a,ints v],int day] (mh e)):Fun Tryz.prog 149 [cK l,int day] (.tup [int 0,int e]):=by
 refine jO 0 (ns:=[8]) (g:=176) Tryz.func149 rfl (Nat.le_of_ble_eq_true rfl) ui uX ai (List.take_zero ..) rfl rfl aA rfl fun cx hN hR hF hL=> ?_
 apply dS;(case hA=>(simp only[go_sem,↓reduceIte];rfl))
 refine aL ?_
 refine' run tt (V.l1 ?_)
 refine⟨rfl,(fun h=>by cases h),⟨⟨_,_,[],[],rfl,rfl,.inr ⟨rfl,rfl,rfl⟩,rfl⟩,rfl,rfl⟩,(by simp[ah,ax]),fun cx' hN hR hF=> ?_⟩
 dsimp only
 refine eX ?_
 refine mU 3 (ch:=mh e) (by simp only[List.take_succ_cons,List.take_zero];rfl) rfl (by rw[hN];kernel_rfl) rfl ?_
 intro K hK
 (revert K;refine bK ?_;refine' aj tt hc (V.l1 ?_))
 refine⟨lu rfl rfl Dh rfl (by simp[go_sem]) hu,_,[(8,37,[.int .i64 e])],rfl,rfl,Bl e,?_,?_⟩
 ·intro p hp
  simp at hp
  subst hp
  exact⟨⟨⟨37,[int 0]⟩,by simp[ah,ax],rfl,by simp,by simp⟩,by simp[Value.oneCell']⟩
 ·simp only[iN,List.map_cons,List.map_nil]
  exact run tt tt
end
section
attribute [local go_sem] Option.toList_some Option.toList_none Int.reduceEq Int.reduceNe
def Bz:Option CS→Prop
 |none=>True
 |some s=>∀x,x∈s.V→0≤x
theorem Lx {α:Type} {x:α}:∀ {l:List α},x∈l.dropLast→x∈l
 |_::_::_,h=>by
  rw[List.dropLast_cons_cons] at h
  rcases List.mem_cons.1 h with h|h
  ·rw[h];simp
  ·exact List.mem_cons_of_mem _ (Lx h)
theorem LA {o:Option CS} {n:Nat} {d v:Int} (h:okO o n) (hn:Bz o) (hv:0≤v) (hl:n≤5000):okO (qC d v o) (n+1)∧Bz (qC d v o):=by
 cases o with
 |none=>
  unfold qC
  simp only
  split
  ·exact⟨⟨⟨rfl,by simp,by simp⟩,by simp⟩,by intro x hx;simp at hx;omega⟩
  ·exact⟨trivial,trivial⟩
 |some s=>
  obtain⟨k1,k2,-⟩:=Br s d v (by have:=h.2;omega) h.1
  refine⟨⟨k1,by have:=h.2;omega⟩,?_⟩
  have hn:∀x,x∈s.V→0≤x:=hn
  have hp:∀x,x∈(s.pop d).V→0≤x:=by
   intro x hx
   unfold CS.pop at hx
   split at hx
   ·split at hx
    ·simp at hx
    ·exact hn x (Lx hx)
   ·exact hn x hx
  show ∀x,x∈(s.add d v).V→0≤x
  intro x hx
  unfold CS.add CS.push at hx
  split at hx
  ·rcases List.mem_append.1 hx with h|h
   ·exact hp x h
   ·simp at h;omega
  ·exact hp x hx
theorem LB:∀(l:List Sl) (o:Option CS) (n:Nat) (e:Int),okO o n→Bz o→kN e l=true→n+2*l.length≤4000→okO (oV l o) (n+2*l.length)∧Bz (oV l o)
 | [],o,n,e,h,hn,_,_=>⟨h,hn⟩
 |s::l,o,n,e,h,hn,hf,hl=>by
  simp only[kN,Bool.and_eq_true,decide_eq_true_eq] at hf
  simp only[List.length_cons] at hl ⊢
  obtain⟨a1,a2⟩:=LA (d:=s.from_) h hn hf.1.1.2 byOmega
  obtain⟨b1,b2⟩:=LA (d:=s.to_) (v:=0) a1 a2 byOmega byOmega
  have:=LB l _ (n+2) s.to_ b1 b2 hf.2 byOmega
  rw[show n+2*(l.length+1)=n+2+2*l.length by omega]
  exact this
theorem LC (l:List Sl) (hl:l.length≤450) (hf:kN 1 l=true):∃a v:List Int,a.length≤1000∧(∀x,x∈v→0≤x)∧Fun Tryz.prog 177 [cK l] (.agg [ints a,ints v]):=by
 have c:=VN l hl hf
 obtain⟨h1,h2⟩:=LB l none 0 1 trivial trivial hf byOmega
 cases ho:oV l none with
 |none=>rw[ho] at c;exact⟨[],[],by simp,by simp,c⟩
 |some s=>rw[ho] at c h1 h2;exact⟨s.A,s.V,by have:=h1.2;omega,h2,c⟩
theorem Wj (l:List Sl) (hl:l.length≤450) (hf:kN 1 l=true) (day:Int):∃m e,Fun Tryz.prog 149 [cK l,int day] (.tup [int m,int e]):=by
 obtain⟨a,v,h1,h2,hc⟩:=LC l hl hf
 rcases EX a v day h1 h2 with⟨n,h⟩|h
 ·exact⟨_,_,Wh l a v day n hc h⟩
 ·exact⟨_,_,Wi l a v day _ hc h⟩
theorem Wl (l:List Sl) (hl:l.length≤450) (hf:kN 1 l=true):∃m e,Fun Tryz.prog 106 [cK l] (.tup [int m,int e]):=by
 obtain⟨m,e,c⟩:=Wj l hl hf 292195
 refine⟨m,e,?_⟩
 refine af Tryz.func106 fun cx hN hR hF hL=> ?_
 exact aj tt c tt
theorem Wm (l:List Sl) (a v:List Int) (s t n m:Int) (hc:Fun Tryz.prog 177 [cK l] (.agg [ints a,ints v])) (hr:Fun Tryz.prog 117 [.agg [int s,int t]] (bool true)) (h1:Fun Tryz.prog 179 [.agg [ints a,ints v],int t] (int n)) (h2:Fun Tryz.prog 179 [.agg [ints a,ints v],int s] (int m)):
 Fun Tryz.prog 144 [cK l,.agg [int s,int t]] (.tup [int (IntKind.i64.wrap (n-m)),int 0]):=by
 refine jO 0 (ns:=[16]) (g:=176) Tryz.func144 rfl (Nat.le_of_ble_eq_true rfl) ui uX ai (List.take_zero ..) rfl rfl aA rfl fun cx hN hR hF hL=> ?_
 apply dS;(case hA=>(simp only[go_sem,↓reduceIte];rfl))
 refine aL ?_
 refine' run tt (V.l1 ?_)
 refine⟨rfl,(fun h=>by cases h),⟨⟨_,_,[],[],rfl,rfl,.inr ⟨rfl,rfl,rfl⟩,rfl⟩,rfl,rfl⟩,(by simp[ah,ax]),fun cx' hN hR hF=> ?_⟩
 dsimp only
 refine aL ?_
 refine' aj tt (I hc (I hr (I h1 h2))) (V.l3 fun hq=> ?_)
 refine DW ?_
 exact run tt tt
theorem Wn (l:List Sl) (a v:List Int) (s t:Int) (hc:Fun Tryz.prog 177 [cK l] (.agg [ints a,ints v])) (hr:Fun Tryz.prog 117 [.agg [int s,int t]] (bool false)):
 Fun Tryz.prog 144 [cK l,.agg [int s,int t]] (.tup [int 0,int 1]):=by
 refine jO 0 (ns:=[16]) (g:=176) Tryz.func144 rfl (Nat.le_of_ble_eq_true rfl) ui uX ai (List.take_zero ..) rfl rfl aA rfl fun cx hN hR hF hL=> ?_
 apply dS;(case hA=>(simp only[go_sem,↓reduceIte];rfl))
 refine aL ?_
 refine' run tt (V.l1 ?_)
 refine⟨rfl,(fun h=>by cases h),⟨⟨_,_,[],[],rfl,rfl,.inr ⟨rfl,rfl,rfl⟩,rfl⟩,rfl,rfl⟩,(by simp[ah,ax]),fun cx' hN hR hF=> ?_⟩
 dsimp only
 (refine aD ?_)
 refine' aj tt hc (V.l1 ?_)
 refine eX ?_
 (refine aD ?_)
 refine' aj tt hr (V.l1 ?_)
 refine SF rfl ?_
 refine mU 0 (ch:=mh 1) (by simp only[List.take_zero];rfl) rfl (by rw[hN];kernel_rfl) rfl ?_
 intro K hK
 (revert K;refine bK ?_;refine' run tt (V.l1 ?_))
 refine⟨lu rfl rfl H9 rfl (by simp[go_sem]) (K7 byOmega),_,[(16,37,[.int .i64 1])],rfl,rfl,Bl 1,?_,?_⟩
 ·intro p hp
  simp at hp
  subst hp
  exact⟨⟨⟨37,[int 0]⟩,by simp[ah,ax],rfl,by simp,by simp⟩,by simp[Value.oneCell']⟩
 ·simp only[iN,List.map_cons,List.map_nil]
  exact run tt tt
theorem Wo (l:List Sl) (a v:List Int) (s t e:Int) (hc:Fun Tryz.prog 177 [cK l] (.agg [ints a,ints v])) (hr:Fun Tryz.prog 117 [.agg [int s,int t]] (bool true)) (h1:mR Tryz.prog 179 [.agg [ints a,ints v],int t] (mh e)):
 Fun Tryz.prog 144 [cK l,.agg [int s,int t]] (.tup [int 0,int e]):=by
 refine jO 0 (ns:=[16]) (g:=176) Tryz.func144 rfl (Nat.le_of_ble_eq_true rfl) ui uX ai (List.take_zero ..) rfl rfl aA rfl fun cx hN hR hF hL=> ?_
 apply dS;(case hA=>(simp only[go_sem,↓reduceIte];rfl))
 refine aL ?_
 refine' run tt (V.l1 ?_)
 refine⟨rfl,(fun h=>by cases h),⟨⟨_,_,[],[],rfl,rfl,.inr ⟨rfl,rfl,rfl⟩,rfl⟩,rfl,rfl⟩,(by simp[ah,ax]),fun cx' hN hR hF=> ?_⟩
 dsimp only
 (refine aD ?_)
 refine' aj tt hc (V.l1 ?_)
 (refine aD ?_)
 refine' aj tt hr (V.l3 fun hq=> ?_)
 refine eX ?_
 refine Jc 3 [0,1,2,4,5,6] (ch:=mh e) [(4,int 0),(5,.ptr 16 0)] mixed (by simp only[List.map_cons,List.map_nil];exact kG rfl (kG rfl (kG rfl (kG rfl (kG rfl (kG rfl (Jd))))))) rfl aA (by rw[hN];kernel_rfl) rfl rfl (Nat.le_of_ble_eq_true rfl) ?_ ?_
 ·intro t
  by_cases h4:t=4
  ·subst h4;exact .inr ⟨rfl,rfl⟩
  by_cases h5:t=5
  ·subst h5;exact .inr ⟨rfl,rfl⟩
  exact .inl (by simp[bf,h4,h5])
 intro K hK
 (revert K;refine bK ?_;refine' run tt (V.l4 fun K hK=> ?_))
 refine hK _ ?_
 refine⟨lu rfl rfl Dh rfl (by simp[go_sem]) h1,_,[(16,37,[.int .i64 e])],rfl,rfl,Bl e,?_,?_⟩
 ·intro p hp
  simp at hp
  subst hp
  exact⟨⟨⟨37,[int 0]⟩,by simp[ah,ax],rfl,by simp,by simp⟩,by simp[Value.oneCell']⟩
 ·simp only[iN,List.map_cons,List.map_nil]
  (revert K;refine bK ?_;exact run tt tt)
theorem Wp (l:List Sl) (a v:List Int) (s t n e:Int) (hc:Fun Tryz.prog 177 [cK l] (.agg [ints a,ints v])) (hr:Fun Tryz.prog 117 [.agg [int s,int t]] (bool true)) (h1:Fun Tryz.prog 179 [.agg [ints a,ints v],int t] (int n)) (h2:mR Tryz.prog 179 [.agg [ints a,ints v],int s] (mh e)):
 Fun Tryz.prog 144 [cK l,.agg [int s,int t]] (.tup [int 0,int e]):=by
 refine jO 0 (ns:=[16]) (g:=176) Tryz.func144 rfl (Nat.le_of_ble_eq_true rfl) ui uX ai (List.take_zero ..) rfl rfl aA rfl fun cx hN hR hF hL=> ?_
 apply dS;(case hA=>(simp only[go_sem,↓reduceIte];rfl))
 refine aL ?_
 refine' run tt (V.l1 ?_)
 refine⟨rfl,(fun h=>by cases h),⟨⟨_,_,[],[],rfl,rfl,.inr ⟨rfl,rfl,rfl⟩,rfl⟩,rfl,rfl⟩,(by simp[ah,ax]),fun cx' hN hR hF=> ?_⟩
 dsimp only
 (refine aD ?_)
 refine' aj tt hc (V.l1 ?_)
 (refine aD ?_)
 refine' aj tt hr (V.l3 fun hq=> ?_)
 refine eX ?_
 refine Jc 7 [0,1,2,3,4,5,6] (ch:=mh e) [(4,int 0),(5,.ptr 16 0)] mixed (by simp only[List.map_cons,List.map_nil];exact kG rfl (kG rfl (kG rfl (kG rfl (kG rfl (kG rfl (kG rfl (Jd)))))))) rfl aA (by rw[hN];kernel_rfl) rfl rfl (Nat.le_of_ble_eq_true rfl) ?_ ?_
 ·intro t
  by_cases h4:t=4
  ·subst h4;exact .inr ⟨rfl,rfl⟩
  by_cases h5:t=5
  ·subst h5;exact .inr ⟨rfl,rfl⟩
  exact .inl (by simp[bf,h4,h5])
 intro K hK
 (revert K;refine bK ?_;refine' aj tt h1 (V.l4 fun K hK=> ?_))
 refine hK _ ?_
 refine⟨lu rfl rfl Dh rfl (by simp[go_sem]) h2,_,[(16,37,[.int .i64 e])],rfl,rfl,Bl e,?_,?_⟩
 ·intro p hp
  simp at hp
  subst hp
  exact⟨⟨⟨37,[int 0]⟩,by simp[ah,ax],rfl,by simp,by simp⟩,by simp[Value.oneCell']⟩
 ·simp only[iN,List.map_cons,List.map_nil]
  (revert K;refine bK ?_;exact run tt tt)
theorem Wq (x:Int):IntKind.i64.wrap x≤9223372036854775807:=by
 have h:x%2 ^ 64<2 ^ 64:=Int.emod_lt_of_pos x (by decide)
 by_cases hc:x%2 ^ 64≥2 ^ (64-1)
 ·simp only[IntKind.wrap,IntKind.bits,IntKind.signed,hc,decide_true,Bool.and_self,if_true];omega
 ·simp only[IntKind.wrap,IntKind.bits,IntKind.signed,hc,decide_false,Bool.and_false,Bool.false_eq_true,if_false];omega
theorem Ws (l:List Sl) (hl:l.length≤450) (hf:kN 1 l=true) (s t:Int) (b:Bool) (hr:Fun Tryz.prog 117 [.agg [int s,int t]] (bool b)):∃m e,m≤9223372036854775807∧Fun Tryz.prog 144 [cK l,.agg [int s,int t]] (.tup [int m,int e]):=by
 obtain⟨a,v,h1,h2,hc⟩:=LC l hl hf
 cases b with
 |false=>exact⟨_,_,by omega,Wn l a v s t hc hr⟩
 |true=>
  rcases EX a v t h1 h2 with⟨n,h⟩|h
  ·rcases EX a v s h1 h2 with⟨m,h'⟩|h'
   ·exact⟨_,_,Wq _,Wm l a v s t n m hc hr h h'⟩
   ·exact⟨_,_,by omega,Wp l a v s t n _ hc hr h h'⟩
  ·exact⟨_,_,by omega,Wo l a v s t _ hc hr h⟩
end
section
open Go.RowKit Go.Shelf
attribute [local go_sem] Option.toList_some Option.toList_none
@[go_sem] theorem rowCg_ren (r:Nat→Nat) (l:List Change):(aa Change.flat l).map (AV.ren r)=aa Change.flat l:=jh (fun x r=>by simp[Change.flat]) r l
@[go_sem] theorem rowCg_nms (p:Nat→Bool) (l:List Change):(aa Change.flat l).all (AV.names p)=true:=ji (fun x p=>by simp[Change.flat]) p l
theorem Wt (l:List Change):(aa Change.flat l).length=l.length*9:=dU (F:=Change.flat) (k:=9) (fun _=>rfl) l
def LD:Go.Shelf.Ren:=⟨fun|4=>175|n=>n,fun|22=>129|25=>106|n=>n,fun n=>n⟩
theorem LF:Lays8.n4 Tryz.prog LD:={
 mixed:=aA
 f4:=⟨Tryz.f175.name,by decide,Tryz.func175.trans (congrArg some aA)⟩
 t0:=Tryz.underlying0
 a0:=Tryz.isAgg0
 z0:=Tryz.sizeOf0
 v0:=Tryz.zeroValue0
 t3:=Tryz.underlying3
 a3:=Tryz.isAgg3
 z3:=Tryz.sizeOf3
 v3:=Tryz.zeroValue3
 t4:=Tryz.underlying4
 a4:=Tryz.isAgg4
 z4:=Tryz.sizeOf4
 v4:=Tryz.zeroValue4
 t9:=Tryz.underlying9
 a9:=Tryz.isAgg9
 z9:=Tryz.sizeOf9
 v9:=Tryz.zeroValue9
 t20:=Tryz.underlying20
 a20:=Tryz.isAgg20
 z20:=Tryz.sizeOf20
 v20:=Tryz.zeroValue20
 t22:=Tryz.underlying129
 a22:=Tryz.isAgg129
 z22:=Tryz.sizeOf129
 v22:=Tryz.zeroValue129}
theorem Wu (n:Nat) (hn0:0<n) (hn:n≤1000000):aC Tryz.prog 175 [] [.v (.slice none 0 0),int n] (.osl 0 9 0 0) [(0,some ⟨106,[]⟩)]:=by
 intro M0 ι w vs hs hsz hv
 obtain⟨u,z,rfl⟩:∃u z,vs= #[u,z]:=by
  have h2:vs.size=2:=hsz
  refine⟨vs[0],vs[1],Array.ext (by simp[h2]) fun i h1 h3=> ?_⟩
  rcases i with _|_|i
  ·rfl
  ·rfl
  ·omega
 have e1:=(hv 0 u _ rfl rfl).ofV
 have e2:=(hv 1 z _ rfl rfl).ofV
 subst e1 e2
 have hi0:Tryz.prog.info? 106=some ((Tryz.prog.info? 106).get aA):=(Option.some_get _).symm
 have hz0:((Tryz.prog.info? 106).get aA).zero=some (.agg #[.int .i64 0,.int .i64 0,.int .i64 0,.int .i64 0,.int .i64 0,.int .i64 0,.int .i64 0,.slice none 0 0,.int .i64 0]):=aA
 have hs1:((Tryz.prog.info? 106).get aA).size=9:=aA
 have hb8:((Tryz.prog.info? 106).get aA).bytes=88:=aA
 generalize (Tryz.prog.info? 106).get aA=i0 at *
 have hc:=Any8.slices_Grow_grow LF i0 (.agg #[.int .i64 0,.int .i64 0,.int .i64 0,.int .i64 0,.int .i64 0,.int .i64 0,.int .i64 0,.slice none 0 0,.int .i64 0]) hi0 hz0 byOmega none 0 0 n [] w (Nat.le_refl _) byOmega (by rw[hb8];omega) byOmega ai (fun _=>rfl) (fun a h=>by cases h)
 rw[show LD.t 25=106 from rfl] at hc
 refine Calls.mono (show Calls Tryz.prog 175 _ w _ from hc) ?_
 rintro e w' ⟨rfl,rfl⟩
 have s1:=mG hs (w':=w.drew) rfl rfl rfl rfl
 have s2:=qW s1.h (b:=0) (bx:=⟨106,[]⟩) (c:= #[].toList.toArray++Builtin.zeroCells (Value.cells (.agg #[.int .i64 0,.int .i64 0,.int .i64 0,.int .i64 0,.int .i64 0,.int .i64 0,.int .i64 0,.slice none 0 0,.int .i64 0])) (0+n-0)++Builtin.zeroCells (Value.cells (.agg #[.int .i64 0,.int .i64 0,.int .i64 0,.int .i64 0,.int .i64 0,.int .i64 0,.int .i64 0,.slice none 0 0,.int .i64 0])) (grownCap w (0+n) 0 106-(0+n))) (by simp[inl]) (Nat.zero_le _) (fun j v y _ h=>by simp at h)
 have hG:=grownCap_ge w (0+n) 0 106
 rw[Nat.zero_add] at hG
 have hG2:=grownCap_le_maxLen w (0+n) 0 106 (by unfold maxLen;omega)
 have hM:ah ([(0,some (⟨106,[]⟩:Bx))]++lives [])=ax (ah (lives [])) [(0,some ⟨106,[]⟩)]:=by
  funext b
  simp[ah,ax,lives]
 refine⟨_,aV ι 0 w.heap.size,rfl,fun b hb=>by simp[inl] at hb,?_,s1.oth.trans s2.oth,?_⟩
 ·rw[hM]
  refine s2.h.used_mono fun b hb=> ?_
  rcases hb with hb|⟨r,hb⟩
  ·exact .inl hb
  ·refine .inr ?_
   simp at hb
   simp[inl,hb.1]
 ·rw[hM]
  refine .osl (by simp[aV]) (Nat.zero_le _) hG2 (c:= #[].toList.toArray++Builtin.zeroCells (Value.cells (.agg #[.int .i64 0,.int .i64 0,.int .i64 0,.int .i64 0,.int .i64 0,.int .i64 0,.int .i64 0,.slice none 0 0,.int .i64 0])) (0+n-0)++Builtin.zeroCells (Value.cells (.agg #[.int .i64 0,.int .i64 0,.int .i64 0,.int .i64 0,.int .i64 0,.int .i64 0,.int .i64 0,.slice none 0 0,.int .i64 0])) (grownCap w (0+n) 0 106-(0+n))) (t:=106) ?_ ?_
  ·show(w.heap.push _)[w.heap.size]? =_
   simp
  ·have h1:(Value.cells (.agg #[.int .i64 0,.int .i64 0,.int .i64 0,.int .i64 0,.int .i64 0,.int .i64 0,.int .i64 0,.slice none 0 0,.int .i64 0])).size=9:=rfl
   simp only[Array.size_append,size_zeroCells,h1]
   simp
   omega
attribute [local go_sem] Int.reduceEq Int.reduceLE Int.reduceLT Int.reduceToNat in
theorem Wv (a b:List Change) (ha:a.length≤100000) (hb:b.length≤100000) (hn:a.length+b.length≠0):aC Tryz.prog 143 [(0,⟨129,[jg a,jg b]⟩)] [.osl 0 1 0 2] (.osl 1 9 0 (a.length+b.length)) [(1,some ⟨106,aa Change.flat (a++b)⟩)]:=by
 have w1:IntKind.i64.wrap (0+(a.length:Int))=(a.length:Int):=wE
 have w2:IntKind.i64.wrap ((a.length:Int)+(b.length:Int))=((a.length+b.length:Nat):Int):=wE
 have w3:((a.length:Int)<0)=False:=eF
 have w4:(((a.length+b.length:Nat):Int)<0)=False:=eF
 have k0:((2:Nat):Int)=2:=rfl
 have k1:IntKind.i64.wrap (0+1)=1:=rfl
 have k2:IntKind.i64.wrap (1+1)=2:=rfl
 refine fu 2 Tryz.func143 rfl (Nat.le_of_ble_eq_true rfl) (by simp[go_sem]) fun cx hN hR hF hL=> ?_;apply fw;(case hA=>(simp only[go_sem,↓reduceIte];rfl));(case hB=>(simp only[go_sem,↓reduceIte];rfl))
 (refine aD ?_)
 refine' run tt (V.l1 ?_)
 (refine aD ?_)
 refine' run tt (V.l1 ?_)
 (refine aD ?_)
 refine' run tt (V.l1 ?_)
 refine bU 3 ?_
 refine' run (I k0 (I k1 (I k2 (I w1 (I w2 (I w3 w4)))))) (lv (fun hq=>fun hq=>fun hq=>fun hq=>fun hq=>lf ?_) tt)
 have hx1:(a.map Change.flat).flatten=aa Change.flat a:=rfl
 have hx2:(b.map Change.flat).flatten=aa Change.flat b:=rfl
 have hx3:aa Change.flat a++aa Change.flat b=aa Change.flat (a++b):=by simp[aa]
 have hx4:=Wt a
 (refine aD ?_)
 refine' run tt (V.l4 fun K hK=> ?_)
 (refine aB [14012] (Wu (a.length+b.length) byOmega byOmega) ?_)
 (revert K;refine bK ?_;refine' run tt (V.l1 ?_))
 refine Sk mixed (by rw[hN];kernel_rfl) (fun A'=>∃r,LCut cx r A' ⟨[(6,.osl 1 9 0 (a.length+b.length)),(0,.osl 0 1 0 2)],[(1,some ⟨106,aa Change.flat (a++b)⟩),(0,some ⟨129,[jg a,jg b]⟩)],2⟩) ?_ ?_
 ·refine' run tt (V.l1 ?_)
  refine bU 3 ?_
  refine' run (I k0 (I k1 k2)) (lv (fun hq=>fun hq=>fun hq=>lf ?_) (lv (fun hq=>fun hq=>o4 fun K hK=> ?_) (lv (fun hq=>o4 fun K hK=> ?_) tt)))
  ·refine⟨eG 1 22018,?_⟩
   simp only[hx1,hx2,hx3]
   simp only[go_sem,↓reduceIte,hF]
   intro b g h
   have:=hF b g h
   simp[inl] at this
   subst this
   exact⟨by decide,rfl⟩
  ·rw[hx1,hx4];simp[maxLen];omega
  ·simp[maxLen];omega
 ·rintro A' ⟨r,hcut⟩
  refine oq r _ hcut (aL ?_)
  exact run tt tt
end
section
attribute [local go_sem] Option.toList_some Option.toList_none Int.reduceEq Int.reduceNe
def ve (h:History) (x:Int):Int:=match h.changes[x.toNat]? with|some c=>c.kind|none=>0
def lN (h:History) (ix:List Int):Nat→Option Int
 |0=>none
 |k+1=>match ix[k]? with
  |some x=>if ve h x≠3∧ve h x≠4 then lN h ix k else some x
  |none=>none
theorem LG {h:History} {ix:List Int} {x:Int}:∀ {k:Nat},lN h ix k=some x→x∈ix
 |k+1,hk=>by
  rw[lN] at hk
  split at hk
  ·rename_i y hy
   split at hk
   ·exact LG hk
   ·injection hk with hk
    subst hk
    exact List.mem_of_getElem? hy
  ·cases hk
def nH:Option Int→AV
 |none=> .tup [int 0,bool false]
 |some x=> .tup [int x,bool true]
theorem Ww (h:History) (ix:List Int) (ko:Fun Tryz.prog 174 [.agg h.flat] (ints ix)) (hI:∀x,x∈ix→0≤x∧x.toNat<h.changes.length) (hl:ix.length≤50000):Fun Tryz.prog 142 [.agg h.flat] (nH (lN h ix ix.length)):=by
 generalize hT:lN h ix ix.length=T
 refine lq Tryz.func142 rfl (Nat.le_of_ble_eq_true rfl) fun cx hN hR hF hL=> ?_;apply dS;(case hA=>(simp only[go_sem,↓reduceIte];rfl))
 (refine aD ?_)
 refine' run tt (V.l1 ?_)
 refine IP 0 (fun s:{k:Nat // k≤ix.length∧lN h ix k=T}=>⟨[(4,ints ix),(5,int s.1),(1,.ptr 0 0)],[(0,some ⟨131,h.flat⟩)],10000⟩) (fun s=>s.1) rfl ?_ ?_
 ·refine aL ?_
  obtain⟨n,hn⟩:∃n,ix.length=n:=⟨_,rfl⟩
  rw[hn] at hT
  rcases n with _|m
  ·rw[lN] at hT
   subst hT
   simp only[nH]
   have hz:(((0:Nat):Int)=0)=True:=by simp
   exact aj (I hn (I hz (decide_eq_true (of_eq_true hz)))) ko tt
  ·have hm:m<ix.length:=byOmega
   have hx:=hI ix[m] (List.getElem_mem hm)
   have hq:ix[m]? =some ix[m]:=List.getElem?_eq_getElem hm
   have e1:(ix.map ak)[m]? =some [int ix[m]]:=by rw[List.getElem?_map,hq];rfl
   have e2:IntKind.i64.wrap (((m+1:Nat):Int)-1)=(m:Int):=wE
   have z0:(((m+1:Nat):Int)=0)=False:=eF
   have z1:((m:Int)<((m+1:Nat):Int))=True:=eT
   have z2:(0≤(m:Int))=True:=eT
   rw[lN,hq] at hT
   have hcx:h.changes[(ix[m]).toNat]? =some h.changes[(ix[m]).toNat]:=List.getElem?_eq_getElem hx.2
   have hk:ve h ix[m]=h.changes[(ix[m]).toNat].kind:=by unfold ve;rw[hcx]
   simp only[hk] at hT
   clear hk
   generalize h.changes[(ix[m]).toNat]=c at *
   have e3:(h.changes.map Change.flat)[(ix[m]).toNat]? =some c.flat:=by rw[List.getElem?_map,hcx];rfl
   generalize ix[m]=x at *
   have b1:(0≤x)=True:=eq_true hx.1
   have b2:(x<(h.changes.length:Int))=True:=eT
   by_cases c3:c.kind=3
   ·rw[if_neg (fun q=>q.1 c3)] at hT
    subst hT
    simp only[nH]
    exact aj (I hn (I e1 (I e2 (I e3 (I z0 (I z1 (I z2 (I b1 (I b2 (I (decide_eq_false (of_eq_false z0)) c3)))))))))) ko tt
    all_goals(repeat(first|refine Da ?_|refine Db ?_|refine Dc ?_|refine Dd ?_|refine Df ?_|refine De ?_))
    all_goals(try focus ((try(revert K;refine bK ?_));refine' run tt ?_;(repeat' first|exact tt|apply lv|(apply oK;intro K hK)|intro hq);all_goals apply lf))
   ·by_cases c4:c.kind=4
    ·rw[if_neg (fun q=>q.2 c4)] at hT
     subst hT
     simp only[nH]
     exact aj (I hn (I e1 (I e2 (I e3 (I z0 (I z1 (I z2 (I b1 (I b2 (I (decide_eq_false (of_eq_false z0)) c4)))))))))) ko tt
     all_goals(repeat(first|refine Da ?_|refine Db ?_|refine Dc ?_|refine Dd ?_|refine Df ?_|refine De ?_))
     all_goals(try focus ((try(revert K;refine bK ?_));refine' run tt ?_;(repeat' first|exact tt|apply lv|(apply oK;intro K hK)|intro hq);all_goals apply lf))
    ·rw[if_pos ⟨c3,c4⟩] at hT
     refine' aj (I hn (I e1 (I e2 (I e3 (I z0 (I z1 (I z2 (I b1 (I b2 (I (decide_eq_false (of_eq_false z0)) (I (eq_false c3) (I (eq_false c4) (I (decide_eq_false c3) (decide_eq_false c4)))))))))))))) ko (lv (fun hq=>fun hq=>lf ?_) tt)
     (repeat(first|refine Da ?_|refine Db ?_|refine Dc ?_|refine Dd ?_|refine Df ?_|refine De ?_))
     refine⟨⟨m,by omega,hT⟩,id,?_⟩
     simp only[go_sem,↓reduceIte,hF]
 ·rintro⟨k,h1,h2⟩
  refine aL ?_
  simp only at h1 h2 ⊢
  rcases k with _|m
  ·rw[lN] at h2
   subst h2
   simp only[nH]
   have hz:(((0:Nat):Int)=0)=True:=by simp
   exact run (I hz (decide_eq_true (of_eq_true hz))) tt
  ·have hm:m<ix.length:=byOmega
   have hx:=hI ix[m] (List.getElem_mem hm)
   have hq:ix[m]? =some ix[m]:=List.getElem?_eq_getElem hm
   have e1:(ix.map ak)[m]? =some [int ix[m]]:=by rw[List.getElem?_map,hq];rfl
   have e2:IntKind.i64.wrap (((m+1:Nat):Int)-1)=(m:Int):=wE
   have z0:(((m+1:Nat):Int)=0)=False:=eF
   have z1:((m:Int)<(ix.length:Int))=True:=eT
   have z2:(0≤(m:Int))=True:=eT
   rw[lN,hq] at h2
   have hcx:h.changes[(ix[m]).toNat]? =some h.changes[(ix[m]).toNat]:=List.getElem?_eq_getElem hx.2
   have hk:ve h ix[m]=h.changes[(ix[m]).toNat].kind:=by unfold ve;rw[hcx]
   simp only[hk] at h2
   clear hk
   generalize h.changes[(ix[m]).toNat]=c at *
   have e3:(h.changes.map Change.flat)[(ix[m]).toNat]? =some c.flat:=by rw[List.getElem?_map,hcx];rfl
   generalize ix[m]=x at *
   have b1:(0≤x)=True:=eq_true hx.1
   have b2:(x<(h.changes.length:Int))=True:=eT
   by_cases c3:c.kind=3
   ·rw[if_neg (fun q=>q.1 c3)] at h2
    subst h2
    simp only[nH]
    exact run (I e1 (I e2 (I e3 (I z0 (I z1 (I z2 (I b1 (I b2 (I (decide_eq_false (of_eq_false z0)) c3))))))))) tt
    all_goals(repeat(first|refine Da ?_|refine Db ?_|refine Dc ?_|refine Dd ?_|refine Df ?_|refine De ?_))
    all_goals(try focus ((try(revert K;refine bK ?_));refine' run tt ?_;(repeat' first|exact tt|apply lv|(apply oK;intro K hK)|intro hq);all_goals apply lf))
   ·by_cases c4:c.kind=4
    ·rw[if_neg (fun q=>q.2 c4)] at h2
     subst h2
     simp only[nH]
     exact run (I e1 (I e2 (I e3 (I z0 (I z1 (I z2 (I b1 (I b2 (I (decide_eq_false (of_eq_false z0)) c4))))))))) tt
     all_goals(repeat(first|refine Da ?_|refine Db ?_|refine Dc ?_|refine Dd ?_|refine Df ?_|refine De ?_))
     all_goals(try focus ((try(revert K;refine bK ?_));refine' run tt ?_;(repeat' first|exact tt|apply lv|(apply oK;intro K hK)|intro hq);all_goals apply lf))
    ·rw[if_pos ⟨c3,c4⟩] at h2
     refine' run (I e1 (I e2 (I e3 (I z0 (I z1 (I z2 (I b1 (I b2 (I (decide_eq_false (of_eq_false z0)) (I (eq_false c3) (I (eq_false c4) (I (decide_eq_false c3) (decide_eq_false c4))))))))))))) (lv (fun hq=>fun hq=>lf ?_) tt)
     (repeat(first|refine Da ?_|refine Db ?_|refine Dc ?_|refine Dd ?_|refine Df ?_|refine De ?_))
     refine⟨⟨m,by omega,h2⟩,id,?_,mS⟩
     simp only[go_sem,↓reduceIte,hF]
theorem Wx (h:History) (hl:h.changes.length≤50000):Fun Tryz.prog 142 [.agg h.flat] (nH (lN h (iR h) h.changes.length)):=by
 have:=Ww h (iR h) (J9 h hl) (fun x hx=>by have:=uP (fO.1 hx);omega) (by rw[xS];exact hl)
 rwa [xS] at this
end
section
attribute [local go_sem] Option.toList_some Option.toList_none Int.reduceEq Int.reduceNe
theorem EY (v:Version) (rk rv ra rz:Int):∀(l:List Cover) (n:Int) (b:Bool),0≤n→n≤4000000000000000000→0≤(mg v rk rv ra rz n b l).1∧(mg v rk rv ra rz n b l).1≤4000000000000000000
 | [],n,b,h0,h1=>by
   rw[mg]
   cases b
   ·simp
   ·exact⟨h0,h1⟩
 |c::l,n,b,h0,h1=>by
  have hb:=KJ v rk rv ra rz c
  rw[KL]
  split
  ·split
   ·rename_i hq;exact EY v rk rv ra rz l _ _ byOmega (by have:=hq.2;omega)
   ·exact EY v rk rv ra rz l _ _ (by split<;>omega) (by split<;>omega)
  ·simp
theorem Wy (v:Version) (s:St):0≤uU v s∧uU v s≤4000000000000000000:=by
 unfold uU
 split
 ·exact EY v _ _ _ _ _ 0 true byOmega byOmega
 ·simp
theorem LH {f:Int→St} {v:Version}:∀ {L:List Sl} {a b e:Int},ib f a b L→b≤292195→e≤a→kN e (L.map (iU v))=true
 | [],_,_,_,_,_,_=>rfl
 |s::L,a,b,e,h,hb,he=>by
  obtain⟨h1,h2,-,-,h5,-⟩:=h
  have h3:=rU h5
  have hp:=Wy v s.st
  have hr:=LH (v:=v) h5 hb (Int.le_refl _)
  rw[List.map_cons,kN]
  simp only[Bool.and_eq_true]
  exact⟨⟨⟨⟨⟨decide_eq_true (show e≤s.from_ by omega),decide_eq_true (show s.from_<s.to_ by omega)⟩,decide_eq_true (show s.to_≤292195 by omega)⟩,decide_eq_true hp.1⟩,decide_eq_true hp.2⟩,hr⟩
theorem LJ (h:History) (T:List Version):kN 1 (gP h T)=true:=by
 by_cases he:gz h T=0
 ·obtain⟨hr,v,-,hs⟩:=Bg he
  have hs2:=uS.1 (AZ (uT.1 hr).1)
  rw[hs]
  exact LH (A9 hr) byOmega byOmega
 ·rw[yf he];rfl
structure HOk (h:History) (T:List Version):Prop where
 l:h.changes.length≤400
 c:h.terms.covers.length≤100000
 cc:∀c,c∈h.changes→c.covers.length≤100000
 t:T.length≤100000
 v:∀v,v∈T→v.age.length≤100000∧v.zone.length≤100000∧v.peril.length≤100000
theorem HOk.of {h:History} {T:List Version} (k:HOk h T):Fun Tryz.prog 105 [.agg h.flat,.agg [dh T]] (.tup [cK (gP h T),int (gz h T)]):=K4 h T (by have:=k.l;omega) k.c k.cc k.t k.v
theorem Wz (m:Int) (hm:m≤9223372036854775807):∃x e,Fun Tryz.prog 87 [int m,int 1000] (.tup [int x,int e]):=by
 by_cases h:0≤m
 ·exact⟨_,_,KD m 1000 h hm byOmega byOmega⟩
 ·refine⟨0,1,?_⟩
  have g:(m<0)=True:=eT
  have ko:Fun Tryz.prog 171 [.agg [.v (.func (.func 199) #[] #[])],int m,int 1000,int 10000] (.tup [int 0,int 1]):=by
   refine af Tryz.func171 fun cx hN hR hF hL=> ?_
   exact run (I g (decide_eq_true (of_eq_true g))) tt
  have ke:Fun Tryz.prog 132 [int m,int 1000,int 10000] (.tup [int 0,int 1]):=by
   refine af Tryz.func132 fun cx hN hR hF hL=> ?_
   exact aj tt (I EB ko) tt
  refine af Tryz.func87 fun cx hN hR hF hL=> ?_
  exact aj tt ke tt
attribute [local go_sem] Int.reduceEq Int.reduceLE Int.reduceLT Int.reduceToNat in
theorem WA:aC Tryz.prog 143 [(0,⟨129,[jg [],jg []]⟩)] [.osl 0 1 0 2] (.osl 1 9 0 0) [(1,some ⟨106,[]⟩)]:=by
 have k0:((2:Nat):Int)=2:=rfl
 have k1:IntKind.i64.wrap (0+1)=1:=rfl
 have k2:IntKind.i64.wrap (1+1)=2:=rfl
 have kz:((0:Nat):Int)=0:=rfl
 have kg:Fun Tryz.prog 175 [.v (.slice none 0 0),int 0] (.v (.slice none 0 0)):=by
  intro M w vs hM hsz hv
  obtain⟨u,z,rfl⟩:∃u z,vs= #[u,z]:=by
   have h2:vs.size=2:=hsz
   refine⟨vs[0],vs[1],Array.ext (by simp[h2]) fun i h1 h3=> ?_⟩
   rcases i with _|_|i
   ·rfl
   ·rfl
   ·omega
  have e1:=(RepA.d (ι:=fun _=>none) (hv 0 u _ rfl rfl)).ofV
  have e2:=(RepA.d (ι:=fun _=>none) (hv 1 z _ rfl rfl)).ofV
  subst e1 e2
  have hc:=Any8.slices_Grow_room LF none 0 0 0 w (Nat.le_refl _) byOmega byOmega byOmega
  refine Calls.mono (show Calls Tryz.prog 175 _ w _ from hc) ?_
  rintro e w' ⟨rfl,rfl⟩
  exact⟨_,rfl,.v _,Below.refl _ _⟩
 refine fu 2 Tryz.func143 rfl (Nat.le_of_ble_eq_true rfl) (by simp[go_sem]) fun cx hN hR hF hL=> ?_;apply fw;(case hA=>(simp only[go_sem,↓reduceIte];rfl));(case hB=>(simp only[go_sem,↓reduceIte];rfl))
 (refine aD ?_)
 refine' run tt (V.l1 ?_)
 (refine aD ?_)
 refine' run tt (V.l1 ?_)
 (refine aD ?_)
 refine' run tt (V.l1 ?_)
 refine bU 3 ?_
 refine' run (I k0 (I k1 (I k2 kz))) (lv (fun hq=>fun hq=>fun hq=>fun hq=>fun hq=>lf ?_) tt)
 (refine aD ?_)
 refine' aj tt kg (V.l1 ?_)
 (refine aD ?_)
 refine' run tt (V.l1 ?_)
 refine bU 3 ?_
 refine' run (I k0 (I k1 (I k2 kz))) (lv (fun hq=>fun hq=>fun hq=>lf ?_) tt)
 refine iM (aL ?_)
 refine' run tt (V.l1 ?_)
 refine⟨eG 1 22018,⟨[(2,.osl 1 9 0 0)],[(1,some ⟨106,[]⟩),(0,some ⟨129,[jg [],jg []]⟩)],2⟩,?_,?_⟩
 ·simp only[go_sem,↓reduceIte,hF]
  refine⟨rfl,fun b g h=> ?_⟩
  have:=hF b g h
  simp[inl] at this
  subst this
  exact⟨by decide,rfl⟩
 ·exact run tt tt
def History.less (h:History) (n:Nat):History:=⟨h.id,h.booked,h.terms,h.changes.take n++h.changes.drop (n+1)⟩
theorem HOk.less {h:History} {T:List Version} (k:HOk h T) (n:Nat):HOk (h.less n) T where
 l:=by show(h.changes.take n++h.changes.drop (n+1)).length≤400;have:=k.l;simp;omega
 c:=k.c
 cc:=fun c hc=>by
  rcases List.mem_append.1 hc with h1|h1
  ·exact k.cc c (List.mem_of_mem_take h1)
  ·exact k.cc c (List.mem_of_mem_drop h1)
 t:=k.t
 v:=k.v
theorem LK {h:History} {T:List Version} (k:HOk h T):(gP h T).length≤450:=by have:=K6 (h:=h) (T:=T);have:=k.l;omega
theorem WB (h:History) (n:Nat) (hl:h.changes.length≤400):aC Tryz.prog 143 [(0,⟨129,[.sl false 9 (List.take n (List.map Change.flat h.changes)),.sl false 9 (List.drop (n+1) (List.map Change.flat h.changes))]⟩)] [.osl 0 1 0 2]
 (.osl 1 9 0 (h.less n).changes.length) [(1,some ⟨106,aa Change.flat (h.less n).changes⟩)]:=by
 rw[←List.map_take,←List.map_drop]
 have hN:(h.less n).changes.length=(h.changes.take n).length+(h.changes.drop (n+1)).length:=List.length_append
 by_cases h0:(h.changes.take n).length+(h.changes.drop (n+1)).length=0
 ·have ha:h.changes.take n=[]:=List.length_eq_zero_iff.1 byOmega
  have hb:h.changes.drop (n+1)=[]:=List.length_eq_zero_iff.1 byOmega
  have hc:(h.less n).changes=[]:=List.length_eq_zero_iff.1 byOmega
  rw[ha,hb,hc]
  exact WA
 ·have:=Wv (h.changes.take n) (h.changes.drop (n+1)) (by simp;omega) (by simp;omega) h0
  rw[hN]
  exact this
def EZ (e3 m e4 x e:Int):AV:=if e3=0 then(if e4=0 then .tup [int x,int e] else .tup [int 0,int e4]) else .tup [int 0,int e3]
theorem WC (h:History) (T:List Version) (k:HOk h T) (n:Nat) (c:Change) (L:List Sl) (e3 m e4 x e:Int) (k1:Fun Tryz.prog 105 [.agg h.flat,.agg [dh T]] (.tup [cK (gP h T),int 0])) (k2:Fun Tryz.prog 142 [.agg h.flat] (.tup [int n,bool true]))
 (hcx:h.changes[n]? =some c) (c3:c.kind=3) (c4:c.way=1) (k3:Fun Tryz.prog 105 [.agg (h.less n).flat,.agg [dh T]] (.tup [cK L,int e3])) (k4:e3=0→Fun Tryz.prog 144 [cK L,.agg [int c.day,int h.terms.to_]] (.tup [int m,int e4]))
 (k5:Fun Tryz.prog 87 [int m,int 1000] (.tup [int x,int e])):Fun Tryz.prog 104 [.agg h.flat,.agg [dh T]] (EZ e3 m e4 x e):=by
 have hn:n<h.changes.length:=(List.getElem?_eq_some_iff.1 hcx).1
 have x3:(h.changes.map Change.flat)[n]? =some c.flat:=by rw[List.getElem?_map,hcx];rfl
 have b1:(0≤(n:Int))=True:=eT
 have b2:((n:Int)<(h.changes.length:Int))=True:=eT
 have x5:IntKind.i64.wrap ((n:Int)+1)=((n+1:Nat):Int):=by have:=k.l;rw[fq]<;>omega
 have x6:((n+1:Nat):Int)≤(h.changes.length:Int):=byOmega
 have kc:=WB h n k.l
 refine lq Tryz.func104 rfl (Nat.le_of_ble_eq_true rfl) fun cx hN hR hF hL=> ?_;apply dS;(case hA=>(simp only[go_sem,↓reduceIte];rfl))
 (refine aD ?_)
 refine' aj (I x3 (I b1 (I b2 (I c3 (I c4 (I x5 x6)))))) (I k1 k2) (V.l1 ?_)
 (refine aD ?_)
 refine' aj (I x3 (I b1 (I b2 (I c3 (I c4 (I x5 x6)))))) (I k1 k2) (V.l3 fun hq=> ?_)
 (refine aD ?_)
 refine' aj (I x3 (I b1 (I b2 (I c3 (I c4 (I x5 x6)))))) (I k1 k2) (V.l1 ?_)
 (refine aD ?_)
 refine' aj (I x3 (I b1 (I b2 (I c3 (I c4 (I x5 x6)))))) (I k1 k2) (V.l3 fun hq=> ?_)
 (refine aD ?_)
 refine' aj (I x3 (I b1 (I b2 (I c3 (I c4 (I x5 x6)))))) (I k1 k2) (V.l1 ?_)
 (refine aD ?_)
 refine' aj (I x3 (I b1 (I b2 (I c3 (I c4 (I x5 x6)))))) (I k1 k2) (V.l4 fun K hK=> ?_)
 (refine aB [6072,6080] (kc) ?_)
 (revert K;refine bK ?_;refine' run tt (V.l1 ?_))
 refine rP [6080] [(2,.ptr 0 0),(3,.ptr 8 0),(10,int c.day)] [(0,some ⟨131,(h.less n).flat⟩),(8,some ⟨24,[dh T]⟩)] rfl ?_ ?_ ?_
 ·simp only[go_sem,↓reduceIte]
  all_goals trivial
 ·simp only[go_sem,↓reduceIte]
  exact⟨.inl rfl,.inl rfl,.inl rfl,.inl rfl,.inl rfl,.inl rfl,.inl rfl,.inl rfl,.inl rfl,bS (F:=Change.flat) (fun _=>rfl) _,dR (F:=Change.flat) (k:=9) (fun _=>rfl) (fun x=>by simp[Change.flat]) _ rfl⟩
 unfold EZ
 by_cases h3:e3=0
 ·have k4':=k4 h3
  subst h3
  rw[if_pos rfl]
  by_cases h4:e4=0
  ·subst h4
   rw[if_pos rfl]
   refine aL ?_
   exact aj tt (I k3 (I k4' k5)) tt
  ·rw[if_neg h4]
   refine aL ?_
   exact aj (I (eq_false h4) (decide_eq_false h4)) (I k3 k4') tt
 ·rw[if_neg h3]
  refine aL ?_
  exact aj (I (eq_false h3) (decide_eq_false h3)) k3 tt
theorem WE (h:History) (T:List Version) (k:HOk h T):∃m e,Fun Tryz.prog 104 [.agg h.flat,.agg [dh T]] (.tup [int m,int e]):=by
 have k1:=k.of
 by_cases e1:gz h T=0
 ·rw[e1] at k1
  have k2:=Wx h (by have:=k.l;omega)
  cases ht:lN h (iR h) h.changes.length with
  |none=>
   rw[ht] at k2
   simp only[nH] at k2
   refine⟨0,0,?_⟩
   refine af Tryz.func104 fun cx hN hR hF hL=> ?_
   exact aj tt (I k1 k2) tt
  |some x=>
   rw[ht] at k2
   simp only[nH] at k2
   have hx:0≤x∧x.toNat<h.changes.length:=by have:=uP (fO.1 (LG ht));omega
   obtain⟨n,rfl⟩:=Int.eq_ofNat_of_zero_le hx.1
   have hn:n<h.changes.length:=by simpa using hx.2
   have hcx:h.changes[n]? =some h.changes[n]:=List.getElem?_eq_getElem hn
   generalize h.changes[n]=c at *
   have x3:(h.changes.map Change.flat)[n]? =some c.flat:=by rw[List.getElem?_map,hcx];rfl
   have b1:(0≤(n:Int))=True:=eT
   have b2:((n:Int)<(h.changes.length:Int))=True:=eT
   by_cases c3:c.kind=3
   ·by_cases c4:c.way=1
    ·have k3:=(k.less n).of
     obtain⟨m,e4,hm,k4⟩:=Ws (gP (h.less n) T) (LK (k.less n)) (LJ _ _) c.day h.terms.to_ _ (Ej _ _)
     obtain⟨x,e,k5⟩:=Wz m hm
     have:=WC h T k n c (gP (h.less n) T) (gz (h.less n) T) m e4 x e k1 k2 hcx c3 c4 k3 (fun _=>k4) k5
     unfold EZ at this
     split at this
     ·split at this
      ·exact⟨_,_,this⟩
      ·exact⟨_,_,this⟩
     ·exact⟨_,_,this⟩
    ·refine⟨0,0,?_⟩
     refine af Tryz.func104 fun cx hN hR hF hL=> ?_
     exact aj (I x3 (I b1 (I b2 (I c3 (I (eq_false c4) (decide_eq_false c4)))))) (I k1 k2) tt
   ·refine⟨0,0,?_⟩
    refine af Tryz.func104 fun cx hN hR hF hL=> ?_
    exact aj (I x3 (I b1 (I b2 (I (eq_false c3) (decide_eq_false c3))))) (I k1 k2) tt
 ·refine⟨0,gz h T,?_⟩
  refine af Tryz.func104 fun cx hN hR hF hL=> ?_
  exact aj (I (eq_false e1) (decide_eq_false e1)) k1 tt
theorem E5 (h:History) (T:List Version) (k:HOk h T):∃m e,Fun Tryz.prog 52 [.agg h.flat,.agg [dh T]] (.tup [int m,int e]):=by
 obtain⟨m,e,k1⟩:=WE h T k
 by_cases he:e=0
 ·subst he
  have k2:=k.of
  obtain⟨w,e2,k3⟩:=Wl (gP h T) (LK k) (LJ h T)
  by_cases h2:e2=0
  ·subst h2
   by_cases ho:IntKind.i64.wrap (4000000000000000000-m)<w
   ·refine⟨0,5,?_⟩
    refine af Tryz.func52 fun cx hN hR hF hL=> ?_
    exact aj (I (@gt_iff_lt Int _) (I (eq_true ho) (decide_eq_true ho))) (I k1 (I k2 k3)) tt
   ·refine⟨IntKind.i64.wrap (w+m),0,?_⟩
    refine af Tryz.func52 fun cx hN hR hF hL=> ?_
    exact aj (I (@gt_iff_lt Int _) (I (eq_false ho) (decide_eq_false ho))) (I k1 (I k2 k3)) tt
  ·refine⟨0,e2,?_⟩
   refine af Tryz.func52 fun cx hN hR hF hL=> ?_
   exact aj (I (eq_false h2) (decide_eq_false h2)) (I k1 (I k2 k3)) tt
 ·refine⟨0,e,?_⟩
  refine af Tryz.func52 fun cx hN hR hF hL=> ?_
  exact aj (I (eq_false he) (decide_eq_false he)) k1 tt
end
section
attribute [local go_sem] Option.toList_some Option.toList_none Int.reduceEq Int.reduceNe
def vg (n:Int):Bool:=decide (1≤n)&&decide (n≤1000000000)
def BA (n:Int):Bool:=decide (1≤n)&&decide (n≤292194)
theorem WF (n:Int):Fun Tryz.prog 128 [int n] (bool (vg n)):=by
 refine af Tryz.func128 fun cx hN hR hF hL=> ?_
 refine' run tt (V.l1 ?_)
 rfl
theorem WG (n:Int):Fun Tryz.prog 129 [int n] (bool (BA n)):=by
 refine af Tryz.func129 fun cx hN hR hF hL=> ?_
 refine' run tt (V.l1 ?_)
 rfl
def Claim.right (c:Claim):Bool:=vg c.id&&vg c.policy&&(decide (c.event=0)||vg c.event)&&decide (0≤c.peril)&&decide (c.peril≤7)&&BA c.loss&&BA c.booked
theorem WH (c:Claim):Fun Tryz.prog 82 [.agg c.flat] (bool c.right):=by
 unfold Claim.right
 refine af Tryz.func82 fun cx hN hR hF hL=> ?_
 exact aj tt (I WF WG) tt
def nI (l:List Cover) (q:Int):Option Cover:=l.find? fun c=>decide (c.peril=q)
def rZ:Option Cover→AV
 |some c=> .tup [.agg c.flat,bool true]
 |none=> .tup [.agg [int 0,int 0,int 0,int 0,int 0],bool false]
attribute [local go_sem] rZ
theorem WI {l:List Cover} {i:Nat} {q:Int} (hi:i<l.length) (h:¬l[i].peril=q):nI (l.drop i) q=nI (l.drop (i+1)) q:=by
 rw[List.drop_eq_getElem_cons hi,nI,List.find?_cons,decide_eq_false h];rfl
theorem WJ {l:List Cover} {i:Nat} {q:Int} (hi:i<l.length) (h:l[i].peril=q):nI (l.drop i) q=some l[i]:=by
 rw[List.drop_eq_getElem_cons hi,nI,List.find?_cons,decide_eq_true h]
theorem WK (l:List Cover) (q:Int) (o:Option Cover) (ho:o=nI l q) (hl:l.length≤1000000):Fun Tryz.prog 85 [dz l,int q] (rZ o):=by
 refine af Tryz.func85 fun cx hN hR hF hL=> ?_
 refine' run tt (V.l1 ?_)
 refine aX (σ:={i:Nat // i≤l.length∧o=nI (l.drop i) q}) (fun s=>⟨[(10,int s.1),(1,int q),(4,.ptr 0 0),(8,dz l),(9,int l.length),(5,bool false)],[(0,some ⟨44,[int 0,int 0,int 0,int 0,int 0]⟩)],3000⟩) (fun s=>l.length-s.1) id ⟨0,by omega,by simpa using ho⟩ ?_ ?_
 ·simp only[go_sem,↓reduceIte,hF]
  all_goals rfl
 ·rintro⟨i,h1,h2⟩
  simp only at h1 h2 ⊢
  by_cases hi:i<l.length
  ·have e1:(l.map Cover.flat)[i]? =some (l[i].flat):=by rw[List.getElem?_map,List.getElem?_eq_getElem hi];rfl
   have e2:=wS i
   by_cases hb:l[i].peril=q
   ·rw[WJ hi hb] at h2
    generalize l[i]=s at *
    subst h2
    exact run (I e1 (I e2 (I hb (decide_eq_true hb)))) tt
   ·rw[WI hi hb] at h2
    generalize l[i]=s at *
    refine' run (I e1 (I e2 (I (eq_false hb) (decide_eq_false hb)))) (lv (fun hq=>fun hq=>lf ?_) tt)
    refine⟨⟨i+1,hi,h2⟩,id,?_,mS⟩
    simp only[go_sem,↓reduceIte,hF]
  ·obtain rfl:i=l.length:=byOmega
   rw[List.drop_length] at h2
   have h2:o=none:=h2
   subst h2
   exact run tt tt
abbrev qD (e:Int):List PanicEntry:=[{v:= .iface 193 (.agg #[.int .i64 e]),recovered:=false}]
theorem eH (e:Int):Fun Tryz.prog 81 [bool true,int e] (.tup []):=by
 refine af Tryz.func81 fun cx hN hR hF hL=> ?_
 exact run tt tt
theorem si (e:Int):mR Tryz.prog 81 [bool false,int e] (qD e):=by
 intro M w vs hM hsz hvs
 obtain⟨u,v,rfl⟩:∃u v,vs= #[u,v]:=by
  have h2:vs.size=2:=hsz
  refine⟨vs[0],vs[1],Array.ext (by simp[h2]) fun i h1 h3=> ?_⟩
  rcases i with _|_|i
  ·rfl
  ·rfl
  ·omega
 have e1:=(RepA.d (ι:=fun _=>none) (hvs 0 u _ rfl rfl)).ofV
 have e2:=(RepA.d (ι:=fun _=>none) (hvs 1 v _ rfl rfl)).ofV
 subst e1 e2
 clear hvs hsz
 go_enter Tryz.func81,Tryz.ntmps81
 go_wp2
 exact⟨rfl,rfl,Below.refl _ _⟩
end
end Go.Proofs.YtlikpcpllahalaaGreat.V
