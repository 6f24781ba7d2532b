/- Parts of the proof. -/
import Derived.Test.YtlikpcpllahalaaGreatG37
import Derived.Test.YtlikpcpllahalaaGreatG21
import Derived.Test.YtlikpcpllahalaaGreatG20
import Derived.Test.YtlikpcpllahalaaGreatG12
set_option maxHeartbeats 16000000
set_option linter.unusedSimpArgs false
set_option linter.unusedVariables false
namespace Go.Proofs.YtlikpcpllahalaaGreat.V
open Go.RowKit
set_option maxRecDepth 100000
section
attribute [local go_sem] Option.toList_some Option.toList_none Int.reduceEq Int.reduceNe
theorem LM (l:List Acct) (hl:l.length≤100000) (hne:l≠ []):aC Tryz.prog 283 [] [.sl false 11 (l.map Acct.flat)] (.osl 0 11 0 l.length) [(0,some ⟨133,aa Acct.flat l⟩)]:=by
 refine fu 0 Tryz.func283 rfl (Nat.le_of_ble_eq_true rfl) (by simp[go_sem]) fun cx hN hR hF hL=> ?_;apply fw;(case hA=>(simp only[go_sem,↓reduceIte];rfl));(case hB=>(simp only[go_sem,↓reduceIte];rfl))
 (refine aD ?_)
 refine' run tt (l1 ?_)
 refine eX ?_
 (refine aD ?_)
 refine' run tt (l1 ?_)
 refine xC rfl (fun hq=> ?_) ?_
 ·exact absurd (by simpa using hq) hne
 ·refine aL ?_
  refine' run tt (l1 ?_)
  (refine aD ?_)
  refine' run tt (l2 ?_ (l4 fun K hK=> ?_))
  ·refine oq (eG 0 2016) ⟨[(2,.osl 0 11 0 l.length)],[(0,some ⟨133,aa Acct.flat l⟩)],1⟩ ?_ (aL ?_)
   ·have hx:(l.map Acct.flat).flatten=aa Acct.flat l:=rfl
    simp only[go_sem,↓reduceIte,hF,hx]
    exact fun b g h=>absurd (hF b g h) (by simp[inl])
   ·exact run tt tt
  ·simp[maxLen];omega
theorem WW:Fun Tryz.prog 283 [.sl false 11 []] (.sl true 11 []):=by
 intro M w vs hM hsz hvs
 obtain⟨v,rfl⟩:∃v,vs= #[v]:=by
  refine⟨vs[0]'(by simp at hsz;omega),?_⟩
  apply Array.ext
  ·simpa using hsz
  ·intro i h1 h2
   have:i=0:=by simp at h2;omega
   subst this;rfl
 obtain⟨A,cap,rfl,-,-,-⟩:=(hvs 0 v _ rfl rfl).sl_val
 clear hvs
 have hb:∀w:World,(Go.binOp .eql 28 (.slice A 0 cap) (.slice none 0 0)).run Tryz.prog w= .ok (.bool A.isNone) w:=fun w=>Lib.run_eql_slice_nil w 28 133 A 0 cap 0 0 Tryz.underlying28
 have hz:∀(A:Option Addr) (w:World),RepD M w (.slice A 0 0) (.sl true 11 []):=fun A w=> .sl (b:=0) (off:=0) (x:=fun _ _=>undef) rfl (Nat.le_refl _) (Nat.zero_le _) (fun _=>rfl) ai ai ai ai
 rcases A with _|⟨b,o,p⟩
 ·go_enter Tryz.func283,Tryz.ntmps283
  go_wp2_with (simp only[hb])
  go_wp2
  go_ret
  exact⟨_,rfl,hz _ _,Below.refl _ _⟩
 ·go_enter Tryz.func283,Tryz.ntmps283
  go_wp2_with (simp only[hb])
  go_wp2
  go_ret
  exact⟨_,rfl,hz _ _,Below.alloc (Below.refl _ _) (Nat.le_refl _) _⟩
theorem WX (l:List Acct) (x:Acct) (hl:l.length≤100000) (hne:l≠ []):aC Tryz.prog 282 [(0,⟨133,aa Acct.flat l⟩),(2,⟨133,x.flat⟩)] [.osl 0 11 0 l.length,int l.length,.osl 2 11 0 1]
 (.sl false 11 ((l++[x]).map Acct.flat)) [(0,none),(2,none)]:=by
 have hr:=dU (F:=Acct.flat) (k:=11) (fun _=>rfl) l
 have e1:(0≤(l.length:Int))=True:=eT
 have e3:(aa Acct.flat l=[])=False:=eq_false (by intro h;rw[h] at hr;cases l with|nil=>exact hne rfl|cons a l=>simp at hr)
 have hsn:=uK Acct.flat l x
 refine aW 3 Tryz.func282 (fun cx hN hR hF hL=> ?_) (by simp[go_sem,e3])
 refine' run (I e1 hr) (lv (fun hq=>fun hq=>lf ?_) (lv (fun hq=>fun hq=>o4 fun K hK=> ?_) tt))
 ·have h:∀R,aH (some ⟨133,((l++[x]).map Acct.flat).flatten⟩) R 11 0 (l.length+1) ((l++[x]).map Acct.flat):=fun R=>dR (F:=Acct.flat) (k:=11) (fun _=>rfl) EQ (l++[x]) ai
  have hsn':((l++[x]).map Acct.flat).flatten=aa Acct.flat l++x.flat:=hsn
  rw[hsn'] at h
  exact⟨bS (F:=Acct.flat) (fun _=>rfl) _,h _⟩
 ·simp[maxLen];omega
theorem WY (x:Acct):Fun Tryz.prog 282 [.sl true 11 [],int 0,.sl false 11 [x.flat]] (.sl false 11 [x.flat]):=by
 refine af Tryz.func282 fun cx hN hR hF hL=> ?_
 refine' run tt (lv (fun hq=>fun hq=>lf ?_) (lv (fun hq=>fun hq=>o4 fun K hK=> ?_) tt))
 ·exact⟨by simp,by simp[aH,Acct.flat]⟩
 all_goals simp[maxLen]
def BC (key:Acct→Int) (l:List Acct) (x:Acct):List Acct:=aZ l (match l.findIdx? (fun y=>decide (key y>key x)) with|some i=>i|none=>l.length) x
theorem LP {idf:FuncId} (key:Acct→Int) (hid:∀y:Acct,Fun Tryz.prog idf [.agg y.flat] (int (key y))) (hc:bn Tryz.prog idf) (x y:Acct):Fun Tryz.prog 281 [.agg y.flat,.pp [.v (.func (.func idf) #[] #[])],.pp x.flat] (bool (decide (key y>key x))):=by
 refine af Tryz.func281 fun cx hN hR hF hL=> ?_
 refine' run tt (l4 fun K hK=> ?_)
 refine bR hc (hid y) (by simp[Acct.flat]) ?_
 (revert K;refine bK ?_;refine' run tt (l4 fun K hK=> ?_))
 refine bR hc (hid x) (by simp[Acct.flat]) ?_
 (revert K;refine bK ?_;exact run tt tt)
attribute [local go_sem] Int.reduceLT in
theorem WZ {idf:FuncId} (key:Acct→Int) (hid:∀y:Acct,Fun Tryz.prog idf [.agg y.flat] (int (key y))) (hc:bn Tryz.prog idf) (x:Acct):Fun Tryz.prog 278 [.sl false 11 [],.agg x.flat,.v (.func (.func idf) #[] #[])] (.sl false 11 [x.flat]):=by
 have k1:Fun Tryz.prog 126 [.sl false 11 [],.fn (.func 281) [] [.pp [.v (.func (.func idf) #[] #[])],.pp x.flat]] (int (-1)):=
  E8 (LP key hid hc x) Ig ai [] ai
 have k2:=WW
 have k3:=WY x
 refine af Tryz.func278 fun cx hN hR hF hL=> ?_
 refine' run tt (l4 fun K hK=> ?_)
 (refine d9 [0,8] (k1) ?_)
 (repeat' first|focus ((try(revert K;refine bK ?_));refine' aj tt k2 ?_;(repeat' first|exact tt|apply lv|(apply oK;intro K hK)|intro hq);all_goals apply lf)|(with_reducible apply aU [4032] Qc (k3);(case hy|hl|hk=>(simp only[go_sem,↓reduceIte];try with_unfolding_all rfl));(case hz=>(with_unfolding_all simp[go_sem,aH,Int.reduceLT];done))))
attribute [local go_sem] Int.reduceLT in
theorem W9 {idf:FuncId} (key:Acct→Int) (hid:∀y:Acct,Fun Tryz.prog idf [.agg y.flat] (int (key y))) (hc:bn Tryz.prog idf) (l:List Acct) (x:Acct) (hl:l.length≤100000):
 Fun Tryz.prog 278 [.sl false 11 (l.map Acct.flat),.agg x.flat,.v (.func (.func idf) #[] #[])] (.sl false 11 ((BC key l x).map Acct.flat)):=by
 by_cases hne:l=[]
 ·subst hne
  exact WZ key hid hc x
 have k1:=E8 (LP key hid hc x) Ig ai l hl
 have k2:=LM l hl hne
 have hi:=kM (fun y:Acct=>decide (key y>key x)) l 0
 unfold BC
 rcases hf:l.findIdx? (fun y=>decide (key y>key x)) with _|i
 ·rw[hf] at hi
  have hi:dY (fun y:Acct=>decide (key y>key x)) 0 l= -1:=hi
  rw[hi] at k1
  have k3:=WX l x hl hne
  show Fun _ _ _ (.sl false 11 ((aZ l l.length x).map Acct.flat))
  rw[ES]
  refine af Tryz.func278 fun cx hN hR hF hL=> ?_
  refine' run tt (l4 fun K hK=> ?_)
  (refine d9 [0,8] (k1) ?_)
  (revert K;refine bK ?_;refine' run tt (lv (fun hq=>o4 fun K hK=> ?_) tt))
  (refine aB [4008] (k2) ?_)
  (revert K;refine bK ?_;refine' run tt (l4 fun K hK=> ?_))
  (refine aB [4008,4040,4032] (k3) ?_)
  (revert K;refine bK ?_;exact run tt tt)
 ·rw[hf] at hi
  have hi:dY (fun y:Acct=>decide (key y>key x)) 0 l=(i:Int):=by rw[hi];show(0:Int)+i=i;omega
  have hil:i<l.length:=by have:=List.findIdx?_eq_some_iff_getElem.1 hf;exact this.1
  rw[hi] at k1
  have k3:=WT l x i hil hl
  have b0:((i:Int)<0)=False:=eF
  have h1:=oU (x:=x) (Nat.le_of_lt hil)
  show Fun _ _ _ (.sl false 11 ((aZ l i x).map Acct.flat))
  rw[←h1] at k3
  generalize aZ l i x=L at *
  refine af Tryz.func278 fun cx hN hR hF hL=> ?_
  refine' run tt (l4 fun K hK=> ?_)
  (refine d9 [0,8] (k1) ?_)
  (revert K;refine bK ?_;refine' run (I b0 (decide_eq_false (of_eq_false b0))) (lv (fun hq=>o4 fun K hK=> ?_) tt))
  (refine aB [3008] (k2) ?_)
  (revert K;refine bK ?_;refine' run tt (l4 fun K hK=> ?_))
  (refine aB [3008,3040,3032] (k3) ?_)
  (revert K;refine bK ?_;refine' run tt (l1 ?_))
  exact⟨bS (F:=Acct.flat) (fun _=>rfl) _,dR (F:=Acct.flat) (k:=11) (fun _=>rfl) EQ L rfl⟩
theorem LQ (l:List Acct) (i:Nat) (x:Acct) (hi:i<l.length) (hl:l.length≤100000):Fun Tryz.prog 291 [.sl false 11 (l.map Acct.flat),int i,.agg x.flat] (.sl false 11 ((l.set i x).map Acct.flat)):=by
 have hne:l≠ []:=by rintro rfl;simp at hi
 have k2:=LM l hl hne
 have h1:(l.set i x).length=l.length:=by simp
 have hset:=Bi (F:=Acct.flat) (k:=11) (fun _=>rfl) l i x hi
 have hr:=dU (F:=Acct.flat) (k:=11) (fun _=>rfl) l
 have e3:(aa Acct.flat l=[])=False:=eq_false (by intro h;rw[h] at hr;cases l with|nil=>exact hne rfl|cons a l=>simp at hr)
 have b1:((i:Int)<(l.length:Int))=True:=eT
 have b2:(i*11+11≤l.length*11)=True:=eT
 rw[←h1] at k2
 refine af Tryz.func291 fun cx hN hR hF hL=> ?_
 refine' run tt (l4 fun K hK=> ?_)
 (refine aB [1008] (k2) ?_)
 (revert K;refine bK ?_;refine' run (I e3 (I hr (I b1 (I b2 h1)))) (l1 ?_))
 have hset':List.take (i*11) (aa Acct.flat l)++x.flat++List.drop (i*11+11) (aa Acct.flat l)=((l.set i x).map Acct.flat).flatten:=hset
 have h:∀R,aH (some ⟨133,((l.set i x).map Acct.flat).flatten⟩) R 11 0 l.length ((l.set i x).map Acct.flat):=fun R=>dR (F:=Acct.flat) (k:=11) (fun _=>rfl) EQ (l.set i x) ai
 rw[←hset'] at h
 exact⟨bS (F:=Acct.flat) (fun _=>rfl) _,h _⟩
theorem LU (l:List File) (hl:l.length≤100000) (hne:l≠ []):aC Tryz.prog 300 [] [.sl false 7 (l.map File.flat)] (.osl 0 7 0 l.length) [(0,some ⟨95,aa File.flat l⟩)]:=by
 refine fu 0 Tryz.func300 rfl (Nat.le_of_ble_eq_true rfl) (by simp[go_sem]) fun cx hN hR hF hL=> ?_;apply fw;(case hA=>(simp only[go_sem,↓reduceIte];rfl));(case hB=>(simp only[go_sem,↓reduceIte];rfl))
 (refine aD ?_)
 refine' run tt (l1 ?_)
 refine eX ?_
 (refine aD ?_)
 refine' run tt (l1 ?_)
 refine xC rfl (fun hq=> ?_) ?_
 ·exact absurd (by simpa using hq) hne
 ·refine aL ?_
  refine' run tt (l1 ?_)
  (refine aD ?_)
  refine' run tt (l2 ?_ (l4 fun K hK=> ?_))
  ·refine oq (eG 0 2016) ⟨[(2,.osl 0 7 0 l.length)],[(0,some ⟨95,aa File.flat l⟩)],1⟩ ?_ (aL ?_)
   ·have hx:(l.map File.flat).flatten=aa File.flat l:=rfl
    simp only[go_sem,↓reduceIte,hF,hx]
    exact fun b g h=>absurd (hF b g h) (by simp[inl])
   ·exact run tt tt
  ·simp[maxLen];omega
theorem Xa:Fun Tryz.prog 300 [.sl false 7 []] (.sl true 7 []):=by
 intro M w vs hM hsz hvs
 obtain⟨v,rfl⟩:∃v,vs= #[v]:=by
  refine⟨vs[0]'(by simp at hsz;omega),?_⟩
  apply Array.ext
  ·simpa using hsz
  ·intro i h1 h2
   have:i=0:=by simp at h2;omega
   subst this;rfl
 obtain⟨A,cap,rfl,-,-,-⟩:=(hvs 0 v _ rfl rfl).sl_val
 clear hvs
 have hb:∀w:World,(Go.binOp .eql 29 (.slice A 0 cap) (.slice none 0 0)).run Tryz.prog w= .ok (.bool A.isNone) w:=fun w=>Lib.run_eql_slice_nil w 29 95 A 0 cap 0 0 Tryz.underlying29
 have hz:∀(A:Option Addr) (w:World),RepD M w (.slice A 0 0) (.sl true 7 []):=fun A w=> .sl (b:=0) (off:=0) (x:=fun _ _=>undef) rfl (Nat.le_refl _) (Nat.zero_le _) (fun _=>rfl) ai ai ai ai
 rcases A with _|⟨b,o,p⟩
 ·go_enter Tryz.func300,Tryz.ntmps300
  go_wp2_with (simp only[hb])
  go_wp2
  go_ret
  exact⟨_,rfl,hz _ _,Below.refl _ _⟩
 ·go_enter Tryz.func300,Tryz.ntmps300
  go_wp2_with (simp only[hb])
  go_wp2
  go_ret
  exact⟨_,rfl,hz _ _,Below.alloc (Below.refl _ _) (Nat.le_refl _) _⟩
theorem Xb (l:List File) (x:File) (hl:l.length≤100000) (hne:l≠ []):aC Tryz.prog 299 [(0,⟨95,aa File.flat l⟩),(2,⟨95,x.flat⟩)] [.osl 0 7 0 l.length,int l.length,.osl 2 7 0 1]
 (.sl false 7 ((l++[x]).map File.flat)) [(0,none),(2,none)]:=by
 have hr:=dU (F:=File.flat) (k:=7) (fun _=>rfl) l
 have e1:(0≤(l.length:Int))=True:=eT
 have e3:(aa File.flat l=[])=False:=eq_false (by intro h;rw[h] at hr;cases l with|nil=>exact hne rfl|cons a l=>simp at hr)
 have hsn:=uK File.flat l x
 refine aW 3 Tryz.func299 (fun cx hN hR hF hL=> ?_) (by simp[go_sem,e3])
 refine' run (I e1 hr) (lv (fun hq=>fun hq=>lf ?_) (lv (fun hq=>fun hq=>o4 fun K hK=> ?_) tt))
 ·have h:∀R,aH (some ⟨95,((l++[x]).map File.flat).flatten⟩) R 7 0 (l.length+1) ((l++[x]).map File.flat):=fun R=>dR (F:=File.flat) (k:=7) (fun _=>rfl) oQ (l++[x]) ai
  have hsn':((l++[x]).map File.flat).flatten=aa File.flat l++x.flat:=hsn
  rw[hsn'] at h
  exact⟨bS (F:=File.flat) (fun _=>rfl) _,h _⟩
 ·simp[maxLen];omega
theorem Xc (x:File):Fun Tryz.prog 299 [.sl true 7 [],int 0,.sl false 7 [x.flat]] (.sl false 7 [x.flat]):=by
 refine af Tryz.func299 fun cx hN hR hF hL=> ?_
 refine' run tt (lv (fun hq=>fun hq=>lf ?_) (lv (fun hq=>fun hq=>o4 fun K hK=> ?_) tt))
 ·exact⟨by simp,by simp[aH,File.flat]⟩
 all_goals simp[maxLen]
def BD (key:File→Int) (l:List File) (x:File):List File:=aZ l (match l.findIdx? (fun y=>decide (key y>key x)) with|some i=>i|none=>l.length) x
theorem LW {idf:FuncId} (key:File→Int) (hid:∀y:File,Fun Tryz.prog idf [.agg y.flat] (int (key y))) (hc:bn Tryz.prog idf) (x y:File):Fun Tryz.prog 298 [.agg y.flat,.pp [.v (.func (.func idf) #[] #[])],.pp x.flat] (bool (decide (key y>key x))):=by
 refine af Tryz.func298 fun cx hN hR hF hL=> ?_
 refine' run tt (l4 fun K hK=> ?_)
 refine bR hc (hid y) (by simp[File.flat]) ?_
 (revert K;refine bK ?_;refine' run tt (l4 fun K hK=> ?_))
 refine bR hc (hid x) (by simp[File.flat]) ?_
 (revert K;refine bK ?_;exact run tt tt)
attribute [local go_sem] Int.reduceLT in
theorem Xd {idf:FuncId} (key:File→Int) (hid:∀y:File,Fun Tryz.prog idf [.agg y.flat] (int (key y))) (hc:bn Tryz.prog idf) (x:File):Fun Tryz.prog 295 [.sl false 7 [],.agg x.flat,.v (.func (.func idf) #[] #[])] (.sl false 7 [x.flat]):=by
 have k1:Fun Tryz.prog 195 [.sl false 7 [],.fn (.func 298) [] [.pp [.v (.func (.func idf) #[] #[])],.pp x.flat]] (int (-1)):=
  BB (LW key hid hc x) Ih ai [] ai
 have k2:=Xa
 have k3:=Xc x
 refine af Tryz.func295 fun cx hN hR hF hL=> ?_
 refine' run tt (l4 fun K hK=> ?_)
 (refine d9 [0,8] (k1) ?_)
 (repeat' first|focus ((try(revert K;refine bK ?_));refine' aj tt k2 ?_;(repeat' first|exact tt|apply lv|(apply oK;intro K hK)|intro hq);all_goals apply lf)|(with_reducible apply aU [4032] Qg (k3);(case hy|hl|hk=>(simp only[go_sem,↓reduceIte];try with_unfolding_all rfl));(case hz=>(with_unfolding_all simp[go_sem,aH,Int.reduceLT];done))))
attribute [local go_sem] Int.reduceLT in
theorem Xe {idf:FuncId} (key:File→Int) (hid:∀y:File,Fun Tryz.prog idf [.agg y.flat] (int (key y))) (hc:bn Tryz.prog idf) (l:List File) (x:File) (hl:l.length≤100000):
 Fun Tryz.prog 295 [.sl false 7 (l.map File.flat),.agg x.flat,.v (.func (.func idf) #[] #[])] (.sl false 7 ((BD key l x).map File.flat)):=by
 by_cases hne:l=[]
 ·subst hne
  exact Xd key hid hc x
 have k1:=BB (LW key hid hc x) Ih ai l hl
 have k2:=LU l hl hne
 have hi:=kM (fun y:File=>decide (key y>key x)) l 0
 unfold BD
 rcases hf:l.findIdx? (fun y=>decide (key y>key x)) with _|i
 ·rw[hf] at hi
  have hi:dY (fun y:File=>decide (key y>key x)) 0 l= -1:=hi
  rw[hi] at k1
  have k3:=Xb l x hl hne
  show Fun _ _ _ (.sl false 7 ((aZ l l.length x).map File.flat))
  rw[ES]
  refine af Tryz.func295 fun cx hN hR hF hL=> ?_
  refine' run tt (l4 fun K hK=> ?_)
  (refine d9 [0,8] (k1) ?_)
  (revert K;refine bK ?_;refine' run tt (lv (fun hq=>o4 fun K hK=> ?_) tt))
  (refine aB [4008] (k2) ?_)
  (revert K;refine bK ?_;refine' run tt (l4 fun K hK=> ?_))
  (refine aB [4008,4040,4032] (k3) ?_)
  (revert K;refine bK ?_;exact run tt tt)
 ·rw[hf] at hi
  have hi:dY (fun y:File=>decide (key y>key x)) 0 l=(i:Int):=by rw[hi];show(0:Int)+i=i;omega
  have hil:i<l.length:=by have:=List.findIdx?_eq_some_iff_getElem.1 hf;exact this.1
  rw[hi] at k1
  have k3:=WU l x i hil hl
  have b0:((i:Int)<0)=False:=eF
  have h1:=oU (x:=x) (Nat.le_of_lt hil)
  show Fun _ _ _ (.sl false 7 ((aZ l i x).map File.flat))
  rw[←h1] at k3
  generalize aZ l i x=L at *
  refine af Tryz.func295 fun cx hN hR hF hL=> ?_
  refine' run tt (l4 fun K hK=> ?_)
  (refine d9 [0,8] (k1) ?_)
  (revert K;refine bK ?_;refine' run (I b0 (decide_eq_false (of_eq_false b0))) (lv (fun hq=>o4 fun K hK=> ?_) tt))
  (refine aB [3008] (k2) ?_)
  (revert K;refine bK ?_;refine' run tt (l4 fun K hK=> ?_))
  (refine aB [3008,3040,3032] (k3) ?_)
  (revert K;refine bK ?_;refine' run tt (l1 ?_))
  exact⟨bS (F:=File.flat) (fun _=>rfl) _,dR (F:=File.flat) (k:=7) (fun _=>rfl) oQ L rfl⟩
theorem Xf (l:List File) (i:Nat) (x:File) (hi:i<l.length) (hl:l.length≤100000):Fun Tryz.prog 306 [.sl false 7 (l.map File.flat),int i,.agg x.flat] (.sl false 7 ((l.set i x).map File.flat)):=by
 have hne:l≠ []:=by rintro rfl;simp at hi
 have k2:=LU l hl hne
 have h1:(l.set i x).length=l.length:=by simp
 have hset:=Bi (F:=File.flat) (k:=7) (fun _=>rfl) l i x hi
 have hr:=dU (F:=File.flat) (k:=7) (fun _=>rfl) l
 have e3:(aa File.flat l=[])=False:=eq_false (by intro h;rw[h] at hr;cases l with|nil=>exact hne rfl|cons a l=>simp at hr)
 have b1:((i:Int)<(l.length:Int))=True:=eT
 have b2:(i*7+7≤l.length*7)=True:=eT
 rw[←h1] at k2
 refine af Tryz.func306 fun cx hN hR hF hL=> ?_
 refine' run tt (l4 fun K hK=> ?_)
 (refine aB [1008] (k2) ?_)
 (revert K;refine bK ?_;refine' run (I e3 (I hr (I b1 (I b2 h1)))) (l1 ?_))
 have hset':List.take (i*7) (aa File.flat l)++x.flat++List.drop (i*7+7) (aa File.flat l)=((l.set i x).map File.flat).flatten:=hset
 have h:∀R,aH (some ⟨95,((l.set i x).map File.flat).flatten⟩) R 7 0 l.length ((l.set i x).map File.flat):=fun R=>dR (F:=File.flat) (k:=7) (fun _=>rfl) oQ (l.set i x) ai
 rw[←hset'] at h
 exact⟨bS (F:=File.flat) (fun _=>rfl) _,h _⟩
theorem Xg (l:List Treaty) (hl:l.length≤100000) (hne:l≠ []):aC Tryz.prog 316 [] [.sl false 9 (l.map Treaty.flat)] (.osl 0 9 0 l.length) [(0,some ⟨55,aa Treaty.flat l⟩)]:=by
 refine fu 0 Tryz.func316 rfl (Nat.le_of_ble_eq_true rfl) (by simp[go_sem]) fun cx hN hR hF hL=> ?_;apply fw;(case hA=>(simp only[go_sem,↓reduceIte];rfl));(case hB=>(simp only[go_sem,↓reduceIte];rfl))
 (refine aD ?_)
 refine' run tt (l1 ?_)
 refine eX ?_
 (refine aD ?_)
 refine' run tt (l1 ?_)
 refine xC rfl (fun hq=> ?_) ?_
 ·exact absurd (by simpa using hq) hne
 ·refine aL ?_
  refine' run tt (l1 ?_)
  (refine aD ?_)
  refine' run tt (l2 ?_ (l4 fun K hK=> ?_))
  ·refine oq (eG 0 2016) ⟨[(2,.osl 0 9 0 l.length)],[(0,some ⟨55,aa Treaty.flat l⟩)],1⟩ ?_ (aL ?_)
   ·have hx:(l.map Treaty.flat).flatten=aa Treaty.flat l:=rfl
    simp only[go_sem,↓reduceIte,hF,hx]
    exact fun b g h=>absurd (hF b g h) (by simp[inl])
   ·exact run tt tt
  ·simp[maxLen];omega
theorem Xh:Fun Tryz.prog 316 [.sl false 9 []] (.sl true 9 []):=by
 intro M w vs hM hsz hvs
 obtain⟨v,rfl⟩:∃v,vs= #[v]:=by
  refine⟨vs[0]'(by simp at hsz;omega),?_⟩
  apply Array.ext
  ·simpa using hsz
  ·intro i h1 h2
   have:i=0:=by simp at h2;omega
   subst this;rfl
 obtain⟨A,cap,rfl,-,-,-⟩:=(hvs 0 v _ rfl rfl).sl_val
 clear hvs
 have hb:∀w:World,(Go.binOp .eql 30 (.slice A 0 cap) (.slice none 0 0)).run Tryz.prog w= .ok (.bool A.isNone) w:=fun w=>Lib.run_eql_slice_nil w 30 55 A 0 cap 0 0 Tryz.underlying30
 have hz:∀(A:Option Addr) (w:World),RepD M w (.slice A 0 0) (.sl true 9 []):=fun A w=> .sl (b:=0) (off:=0) (x:=fun _ _=>undef) rfl (Nat.le_refl _) (Nat.zero_le _) (fun _=>rfl) ai ai ai ai
 rcases A with _|⟨b,o,p⟩
 ·go_enter Tryz.func316,Tryz.ntmps316
  go_wp2_with (simp only[hb])
  go_wp2
  go_ret
  exact⟨_,rfl,hz _ _,Below.refl _ _⟩
 ·go_enter Tryz.func316,Tryz.ntmps316
  go_wp2_with (simp only[hb])
  go_wp2
  go_ret
  exact⟨_,rfl,hz _ _,Below.alloc (Below.refl _ _) (Nat.le_refl _) _⟩
theorem Xi (l:List Treaty) (x:Treaty) (hl:l.length≤100000) (hne:l≠ []):aC Tryz.prog 315 [(0,⟨55,aa Treaty.flat l⟩),(2,⟨55,x.flat⟩)] [.osl 0 9 0 l.length,int l.length,.osl 2 9 0 1]
 (.sl false 9 ((l++[x]).map Treaty.flat)) [(0,none),(2,none)]:=by
 have hr:=dU (F:=Treaty.flat) (k:=9) (fun _=>rfl) l
 have e1:(0≤(l.length:Int))=True:=eT
 have e3:(aa Treaty.flat l=[])=False:=eq_false (by intro h;rw[h] at hr;cases l with|nil=>exact hne rfl|cons a l=>simp at hr)
 have hsn:=uK Treaty.flat l x
 refine aW 3 Tryz.func315 (fun cx hN hR hF hL=> ?_) (by simp[go_sem,e3])
 refine' run (I e1 hr) (lv (fun hq=>fun hq=>lf ?_) (lv (fun hq=>fun hq=>o4 fun K hK=> ?_) tt))
 ·have h:∀R,aH (some ⟨55,((l++[x]).map Treaty.flat).flatten⟩) R 9 0 (l.length+1) ((l++[x]).map Treaty.flat):=fun R=>dR (F:=Treaty.flat) (k:=9) (fun _=>rfl) ER (l++[x]) ai
  have hsn':((l++[x]).map Treaty.flat).flatten=aa Treaty.flat l++x.flat:=hsn
  rw[hsn'] at h
  exact⟨bS (F:=Treaty.flat) (fun _=>rfl) _,h _⟩
 ·simp[maxLen];omega
theorem Xj (x:Treaty):Fun Tryz.prog 315 [.sl true 9 [],int 0,.sl false 9 [x.flat]] (.sl false 9 [x.flat]):=by
 refine af Tryz.func315 fun cx hN hR hF hL=> ?_
 refine' run tt (lv (fun hq=>fun hq=>lf ?_) (lv (fun hq=>fun hq=>o4 fun K hK=> ?_) tt))
 ·exact⟨by simp,by simp[aH,Treaty.flat]⟩
 all_goals simp[maxLen]
def BF (key:Treaty→Int) (l:List Treaty) (x:Treaty):List Treaty:=aZ l (match l.findIdx? (fun y=>decide (key y>key x)) with|some i=>i|none=>l.length) x
theorem LX {idf:FuncId} (key:Treaty→Int) (hid:∀y:Treaty,Fun Tryz.prog idf [.agg y.flat] (int (key y))) (hc:bn Tryz.prog idf) (x y:Treaty):Fun Tryz.prog 314 [.agg y.flat,.pp [.v (.func (.func idf) #[] #[])],.pp x.flat] (bool (decide (key y>key x))):=by
 refine af Tryz.func314 fun cx hN hR hF hL=> ?_
 refine' run tt (l4 fun K hK=> ?_)
 refine bR hc (hid y) (by simp[Treaty.flat]) ?_
 (revert K;refine bK ?_;refine' run tt (l4 fun K hK=> ?_))
 refine bR hc (hid x) (by simp[Treaty.flat]) ?_
 (revert K;refine bK ?_;exact run tt tt)
attribute [local go_sem] Int.reduceLT in
theorem Xk {idf:FuncId} (key:Treaty→Int) (hid:∀y:Treaty,Fun Tryz.prog idf [.agg y.flat] (int (key y))) (hc:bn Tryz.prog idf) (x:Treaty):Fun Tryz.prog 311 [.sl false 9 [],.agg x.flat,.v (.func (.func idf) #[] #[])] (.sl false 9 [x.flat]):=by
 have k1:Fun Tryz.prog 135 [.sl false 9 [],.fn (.func 314) [] [.pp [.v (.func (.func idf) #[] #[])],.pp x.flat]] (int (-1)):=
  E9 (LX key hid hc x) Ii ai [] ai
 have k2:=Xh
 have k3:=Xj x
 refine af Tryz.func311 fun cx hN hR hF hL=> ?_
 refine' run tt (l4 fun K hK=> ?_)
 (refine d9 [0,8] (k1) ?_)
 (repeat' first|focus ((try(revert K;refine bK ?_));refine' aj tt k2 ?_;(repeat' first|exact tt|apply lv|(apply oK;intro K hK)|intro hq);all_goals apply lf)|(with_reducible apply aU [4032] Qk (k3);(case hy|hl|hk=>(simp only[go_sem,↓reduceIte];try with_unfolding_all rfl));(case hz=>(with_unfolding_all simp[go_sem,aH,Int.reduceLT];done))))
attribute [local go_sem] Int.reduceLT in
theorem Xl {idf:FuncId} (key:Treaty→Int) (hid:∀y:Treaty,Fun Tryz.prog idf [.agg y.flat] (int (key y))) (hc:bn Tryz.prog idf) (l:List Treaty) (x:Treaty) (hl:l.length≤100000):
 Fun Tryz.prog 311 [.sl false 9 (l.map Treaty.flat),.agg x.flat,.v (.func (.func idf) #[] #[])] (.sl false 9 ((BF key l x).map Treaty.flat)):=by
 by_cases hne:l=[]
 ·subst hne
  exact Xk key hid hc x
 have k1:=E9 (LX key hid hc x) Ii ai l hl
 have k2:=Xg l hl hne
 have hi:=kM (fun y:Treaty=>decide (key y>key x)) l 0
 unfold BF
 rcases hf:l.findIdx? (fun y=>decide (key y>key x)) with _|i
 ·rw[hf] at hi
  have hi:dY (fun y:Treaty=>decide (key y>key x)) 0 l= -1:=hi
  rw[hi] at k1
  have k3:=Xi l x hl hne
  show Fun _ _ _ (.sl false 9 ((aZ l l.length x).map Treaty.flat))
  rw[ES]
  refine af Tryz.func311 fun cx hN hR hF hL=> ?_
  refine' run tt (l4 fun K hK=> ?_)
  (refine d9 [0,8] (k1) ?_)
  (revert K;refine bK ?_;refine' run tt (lv (fun hq=>o4 fun K hK=> ?_) tt))
  (refine aB [4008] (k2) ?_)
  (revert K;refine bK ?_;refine' run tt (l4 fun K hK=> ?_))
  (refine aB [4008,4040,4032] (k3) ?_)
  (revert K;refine bK ?_;exact run tt tt)
 ·rw[hf] at hi
  have hi:dY (fun y:Treaty=>decide (key y>key x)) 0 l=(i:Int):=by rw[hi];show(0:Int)+i=i;omega
  have hil:i<l.length:=by have:=List.findIdx?_eq_some_iff_getElem.1 hf;exact this.1
  rw[hi] at k1
  have k3:=WV l x i hil hl
  have b0:((i:Int)<0)=False:=eF
  have h1:=oU (x:=x) (Nat.le_of_lt hil)
  show Fun _ _ _ (.sl false 9 ((aZ l i x).map Treaty.flat))
  rw[←h1] at k3
  generalize aZ l i x=L at *
  refine af Tryz.func311 fun cx hN hR hF hL=> ?_
  refine' run tt (l4 fun K hK=> ?_)
  (refine d9 [0,8] (k1) ?_)
  (revert K;refine bK ?_;refine' run (I b0 (decide_eq_false (of_eq_false b0))) (lv (fun hq=>o4 fun K hK=> ?_) tt))
  (refine aB [3008] (k2) ?_)
  (revert K;refine bK ?_;refine' run tt (l4 fun K hK=> ?_))
  (refine aB [3008,3040,3032] (k3) ?_)
  (revert K;refine bK ?_;refine' run tt (l1 ?_))
  exact⟨bS (F:=Treaty.flat) (fun _=>rfl) _,dR (F:=Treaty.flat) (k:=9) (fun _=>rfl) ER L rfl⟩
end
def aQ (n a b:Int):Bool:=decide (a≤n)&&decide (n≤b)
theorem LY (n a b:Int):Fun Tryz.prog 166 [int n,int a,int b] (bool (aQ n a b)):=by
 refine af Tryz.func166 fun cx hN hR hF hL=> ?_
 refine' run tt (l1 ?_)
 rfl
def Claim.formed (c:Claim):Bool:=(aQ c.id 1 1000000000&&aQ c.policy 1 1000000000&&aQ c.event 0 1000000000)&&(aQ c.loss 1 292194&&aQ c.booked 1 292194)&&aQ c.peril 0 7
def Act.right (a:Act):Bool:=aQ a.booked 1 292194&&aQ a.kind 1 5&&aQ a.amt 0 (if a.kind=4∨a.kind=5 then 0 else 1000000000000000)
theorem Xm (c:Claim):Fun Tryz.prog 153 [.agg c.flat] (bool c.formed):=by
 refine af Tryz.func153 fun cx hN hR hF hL=> ?_
 refine' aj tt LY (l1 ?_)
 rfl
theorem Xn (a:Act):Fun Tryz.prog 191 [.agg a.flat] (bool a.right):=by
 refine af Tryz.func191 fun cx hN hR hF hL=> ?_
 refine' aj tt LY (lv (fun hq=>lf ?_) (l3 fun hq=> ?_))
 all_goals simp[Act.right,hq]
theorem bF (a b:Int) (l:List Int):Fun Tryz.prog 133 [.agg [int a,int b],ints l] (bool (l.all fun x=>aQ x a b)):=by
 refine af Tryz.func133 fun cx hN hR hF hL=> ?_
 have hl:l.length≤9223372036854775807:=by
  have:=hL
  simp[maxLen] at this
  omega
 refine' run tt (l1 ?_)
 refine aX (σ:={i:Nat // i≤l.length∧(l.all fun x=>aQ x a b)=((l.drop i).all fun x=>aQ x a b)}) (fun s=>⟨[(9,int s.1),(8,int l.length),(7,ints l),(4,bool false),(2,.ptr 0 0)],[(0,some ⟨259,[int a,int b]⟩)],3000⟩) (fun s=>l.length-s.1) id ⟨0,by omega,rfl⟩ ?_ ?_
 ·simp only[go_sem,↓reduceIte,hF]
  rfl
 ·rintro⟨i,h1,h2⟩
  by_cases hi:i<l.length
  ·have e1:l[i]? =some l[i]:=List.getElem?_eq_getElem hi
   have e2:=wS i
   rw[List.drop_eq_getElem_cons hi,List.all_cons] at h2
   refine' run (I e1 e2) (lv (fun hq=>fun hq=>lf ?_) (lv (fun hq=>fun hq=>lf ?_) tt))
   ·have:aQ l[i] a b=false:=by simp[aQ];omega
    rw[h2,this];rfl
   ·refine⟨⟨i+1,by omega,?_⟩,id,?_,mS⟩
    ·have:aQ l[i] a b=true:=by simp[aQ];omega
     rw[h2,this];rfl
    ·simp only[go_sem,↓reduceIte,hF]
  ·refine' run tt (l3 fun hq=> ?_)
   rw[List.drop_eq_nil_of_le byOmega] at h2
   rw[h2];rfl
def Treaty.right (t:Treaty):Bool:=
 aQ t.id 1 1000000000&& !decide (jQ t.from_ t.to_=0)&&aQ t.perils 1 255&&
  (if t.kind=1 then aQ t.bp 1 10000&&aQ t.attach 0 0&&aQ t.width 0 0&&aQ t.again 0 0
   else if t.kind=2∨t.kind=3 then decide (t.bp=0)&&aQ t.attach 0 1000000000000000&&aQ t.width 1 1000000000000000&&aQ t.again 0 100 else false)
theorem Fa (w:Int):aQ w 1 1000000000000000=(aQ w 0 1000000000000000&&decide (0<w)):=by
 rw[Bool.eq_iff_iff]
 simp[aQ]
 omega
theorem Xo (t:Treaty) (a1:aQ t.id 1 1000000000=false):Fun Tryz.prog 89 [.agg t.flat] (bool t.right):=by
 refine af Tryz.func89 fun cx hN hR hF hL=> ?_
 (repeat' first|focus ((try(revert K;refine bK ?_));refine' aj a1 ni ?_;(repeat' first|exact tt|apply lv|(apply oK;intro K hK)|intro hq);all_goals apply lf)|(with_reducible apply aU [1024] bE (bF 1 1000000000 [t.id]);(case hy|hl|hk=>(simp only[go_sem,↓reduceIte];try with_unfolding_all rfl));(case hz=>(with_unfolding_all simp[go_sem,aH,a1];done))))
 simp[Treaty.right,a1]
theorem Xp (t:Treaty) (a1:aQ t.id 1 1000000000=true) (a2:jQ t.from_ t.to_=0):Fun Tryz.prog 89 [.agg t.flat] (bool t.right):=by
 refine af Tryz.func89 fun cx hN hR hF hL=> ?_
 (repeat' first|focus ((try(revert K;refine bK ?_));refine' aj (I a1 a2) ni ?_;(repeat' first|exact tt|apply lv|(apply oK;intro K hK)|intro hq);all_goals apply lf)|(with_reducible apply aU [1024] bE (bF 1 1000000000 [t.id]);(case hy|hl|hk=>(simp only[go_sem,↓reduceIte];try with_unfolding_all rfl));(case hz=>(with_unfolding_all simp[go_sem,aH,a1,a2];done))))
 simp[Treaty.right,a2]
theorem Xq (t:Treaty) (a1:aQ t.id 1 1000000000=true) (a2:¬jQ t.from_ t.to_=0) (k1:t.kind=1):Fun Tryz.prog 89 [.agg t.flat] (bool t.right):=by
 cases b1:aQ t.bp 1 10000
 all_goals refine af Tryz.func89 fun cx hN hR hF hL=> ?_
 all_goals(repeat' first|focus ((try(revert K;refine bK ?_));refine' aj (I a1 (I a2 (I k1 b1))) ni ?_;(repeat' first|exact tt|apply lv|(apply oK;intro K hK)|intro hq);all_goals apply lf)|(with_reducible apply aU [1024] bE (bF 1 1000000000 [t.id]);(case hy|hl|hk=>(simp only[go_sem,↓reduceIte];try with_unfolding_all rfl));(case hz=>(with_unfolding_all simp[go_sem,aH,a1,a2,k1,b1];done)))|(with_reducible apply aU [1128] bE (bF 1 255 [t.perils]);(case hy|hl|hk=>(simp only[go_sem,↓reduceIte];try with_unfolding_all rfl));(case hz=>(with_unfolding_all simp[go_sem,aH,a1,a2,k1,b1];done)))|(with_reducible apply aU [4024] bE (bF 1 10000 [t.bp]);(case hy|hl|hk=>(simp only[go_sem,↓reduceIte];try with_unfolding_all rfl));(case hz=>(with_unfolding_all simp[go_sem,aH,a1,a2,k1,b1];done)))|(with_reducible apply aU [4104] bE (bF 0 0 [t.attach,t.width,t.again]);(case hy|hl|hk=>(simp only[go_sem,↓reduceIte];try with_unfolding_all rfl));(case hz=>(with_unfolding_all simp[go_sem,aH,a1,a2,k1,b1];done))))
 all_goals(simp[Treaty.right,a1,a2,k1,b1,hq,Bool.and_assoc];try(intros;simp_all))
theorem Xr (t:Treaty) (a1:aQ t.id 1 1000000000=true) (a2:¬jQ t.from_ t.to_=0) (k1:¬t.kind=1) (k2:¬t.kind=2) (k3:¬t.kind=3):Fun Tryz.prog 89 [.agg t.flat] (bool t.right):=by
 refine af Tryz.func89 fun cx hN hR hF hL=> ?_
 (repeat' first|focus ((try(revert K;refine bK ?_));refine' aj (I a1 (I a2 (I k1 (I k2 k3)))) ni ?_;(repeat' first|exact tt|apply lv|(apply oK;intro K hK)|intro hq);all_goals apply lf)|(with_reducible apply aU [1024] bE (bF 1 1000000000 [t.id]);(case hy|hl|hk=>(simp only[go_sem,↓reduceIte];try with_unfolding_all rfl));(case hz=>(with_unfolding_all simp[go_sem,aH,a1,a2,k1,k2,k3];done)))|(with_reducible apply aU [1128] bE (bF 1 255 [t.perils]);(case hy|hl|hk=>(simp only[go_sem,↓reduceIte];try with_unfolding_all rfl));(case hz=>(with_unfolding_all simp[go_sem,aH,a1,a2,k1,k2,k3];done))))
 all_goals simp[Treaty.right,k1,k2,k3]
theorem Xt (t:Treaty) (a1:aQ t.id 1 1000000000=true) (a2:¬jQ t.from_ t.to_=0) (k2:t.kind=2∨t.kind=3) (c1:¬t.bp=0):Fun Tryz.prog 89 [.agg t.flat] (bool t.right):=by
 rcases k2 with k2|k2
 all_goals refine af Tryz.func89 fun cx hN hR hF hL=> ?_
 all_goals(repeat' first|focus ((try(revert K;refine bK ?_));refine' aj (I a1 (I a2 (I k2 c1))) ni ?_;(repeat' first|exact tt|apply lv|(apply oK;intro K hK)|intro hq);all_goals apply lf)|(with_reducible apply aU [1024] bE (bF 1 1000000000 [t.id]);(case hy|hl|hk=>(simp only[go_sem,↓reduceIte];try with_unfolding_all rfl));(case hz=>(with_unfolding_all simp[go_sem,aH,a1,a2,k2,c1];done)))|(with_reducible apply aU [1128] bE (bF 1 255 [t.perils]);(case hy|hl|hk=>(simp only[go_sem,↓reduceIte];try with_unfolding_all rfl));(case hz=>(with_unfolding_all simp[go_sem,aH,a1,a2,k2,c1];done))))
 all_goals simp[Treaty.right,k2,c1]
theorem Xu (t:Treaty) (a1:aQ t.id 1 1000000000=true) (a2:¬jQ t.from_ t.to_=0) (k2:t.kind=2∨t.kind=3) (c1:t.bp=0) (c2:(aQ t.attach 0 1000000000000000&&aQ t.width 0 1000000000000000)=false):Fun Tryz.prog 89 [.agg t.flat] (bool t.right):=by
 rcases k2 with k2|k2
 all_goals refine af Tryz.func89 fun cx hN hR hF hL=> ?_
 all_goals(repeat' first|focus ((try(revert K;refine bK ?_));refine' aj (I a1 (I a2 (I k2 (I c1 c2)))) ni ?_;(repeat' first|exact tt|apply lv|(apply oK;intro K hK)|intro hq);all_goals apply lf)|(with_reducible apply aU [1024] bE (bF 1 1000000000 [t.id]);(case hy|hl|hk=>(simp only[go_sem,↓reduceIte];try with_unfolding_all rfl));(case hz=>(with_unfolding_all simp[go_sem,aH,a1,a2,k2,c1,c2];done)))|(with_reducible apply aU [1128] bE (bF 1 255 [t.perils]);(case hy|hl|hk=>(simp only[go_sem,↓reduceIte];try with_unfolding_all rfl));(case hz=>(with_unfolding_all simp[go_sem,aH,a1,a2,k2,c1,c2];done)))|(with_reducible apply aU [5072] bE (bF 0 1000000000000000 [t.attach,t.width]);(case hy|hl|hk=>(simp only[go_sem,↓reduceIte];try with_unfolding_all rfl));(case hz=>(with_unfolding_all simp[go_sem,aH,a1,a2,k2,c1,c2];done)))|(with_reducible apply aU [5168] bE (bF 0 100 [t.again]);(case hy|hl|hk=>(simp only[go_sem,↓reduceIte];try with_unfolding_all rfl));(case hz=>(with_unfolding_all simp[go_sem,aH,a1,a2,k2,c1,c2];done)))|(with_reducible apply aU [6072] bE (bF 0 1000000000000000 [t.attach,t.width]);(case hy|hl|hk=>(simp only[go_sem,↓reduceIte];try with_unfolding_all rfl));(case hz=>(with_unfolding_all simp[go_sem,aH,a1,a2,k2,c1,c2];done)))|(with_reducible apply aU [6168] bE (bF 0 100 [t.again]);(case hy|hl|hk=>(simp only[go_sem,↓reduceIte];try with_unfolding_all rfl));(case hz=>(with_unfolding_all simp[go_sem,aH,a1,a2,k2,c1,c2];done))))
 all_goals have hw:=Fa t.width
 all_goals simp_all[Treaty.right]
theorem Xv (t:Treaty) (a1:aQ t.id 1 1000000000=true) (a2:¬jQ t.from_ t.to_=0) (k2:t.kind=2∨t.kind=3) (c1:t.bp=0) (c2:(aQ t.attach 0 1000000000000000&&aQ t.width 0 1000000000000000)=true) (c4:0<t.width):Fun Tryz.prog 89 [.agg t.flat] (bool t.right):=by
 rcases k2 with k2|k2
 all_goals refine af Tryz.func89 fun cx hN hR hF hL=> ?_
 all_goals(repeat' first|focus ((try(revert K;refine bK ?_));refine' aj (I a1 (I a2 (I k2 (I c1 (I c2 c4))))) ni ?_;(repeat' first|exact tt|apply lv|(apply oK;intro K hK)|intro hq);all_goals apply lf)|(with_reducible apply aU [1024] bE (bF 1 1000000000 [t.id]);(case hy|hl|hk=>(simp only[go_sem,↓reduceIte];try with_unfolding_all rfl));(case hz=>(with_unfolding_all simp[go_sem,aH,a1,a2,k2,c1,c2,c4];done)))|(with_reducible apply aU [1128] bE (bF 1 255 [t.perils]);(case hy|hl|hk=>(simp only[go_sem,↓reduceIte];try with_unfolding_all rfl));(case hz=>(with_unfolding_all simp[go_sem,aH,a1,a2,k2,c1,c2,c4];done)))|(with_reducible apply aU [5072] bE (bF 0 1000000000000000 [t.attach,t.width]);(case hy|hl|hk=>(simp only[go_sem,↓reduceIte];try with_unfolding_all rfl));(case hz=>(with_unfolding_all simp[go_sem,aH,a1,a2,k2,c1,c2,c4];done)))|(with_reducible apply aU [5168] bE (bF 0 100 [t.again]);(case hy|hl|hk=>(simp only[go_sem,↓reduceIte];try with_unfolding_all rfl));(case hz=>(with_unfolding_all simp[go_sem,aH,a1,a2,k2,c1,c2,c4];done)))|(with_reducible apply aU [6072] bE (bF 0 1000000000000000 [t.attach,t.width]);(case hy|hl|hk=>(simp only[go_sem,↓reduceIte];try with_unfolding_all rfl));(case hz=>(with_unfolding_all simp[go_sem,aH,a1,a2,k2,c1,c2,c4];done)))|(with_reducible apply aU [6168] bE (bF 0 100 [t.again]);(case hy|hl|hk=>(simp only[go_sem,↓reduceIte];try with_unfolding_all rfl));(case hz=>(with_unfolding_all simp[go_sem,aH,a1,a2,k2,c1,c2,c4];done))))
 all_goals have hw:=Fa t.width
 all_goals simp_all[Treaty.right]
theorem Xw (t:Treaty) (a1:aQ t.id 1 1000000000=true) (a2:¬jQ t.from_ t.to_=0) (k2:t.kind=2∨t.kind=3) (c1:t.bp=0) (c2:(aQ t.attach 0 1000000000000000&&aQ t.width 0 1000000000000000)=true) (c4:¬0<t.width):Fun Tryz.prog 89 [.agg t.flat] (bool t.right):=by
 rcases k2 with k2|k2
 all_goals refine af Tryz.func89 fun cx hN hR hF hL=> ?_
 all_goals(repeat' first|focus ((try(revert K;refine bK ?_));refine' aj (I a1 (I a2 (I k2 (I c1 (I c2 c4))))) ni ?_;(repeat' first|exact tt|apply lv|(apply oK;intro K hK)|intro hq);all_goals apply lf)|(with_reducible apply aU [1024] bE (bF 1 1000000000 [t.id]);(case hy|hl|hk=>(simp only[go_sem,↓reduceIte];try with_unfolding_all rfl));(case hz=>(with_unfolding_all simp[go_sem,aH,a1,a2,k2,c1,c2,c4];done)))|(with_reducible apply aU [1128] bE (bF 1 255 [t.perils]);(case hy|hl|hk=>(simp only[go_sem,↓reduceIte];try with_unfolding_all rfl));(case hz=>(with_unfolding_all simp[go_sem,aH,a1,a2,k2,c1,c2,c4];done)))|(with_reducible apply aU [5072] bE (bF 0 1000000000000000 [t.attach,t.width]);(case hy|hl|hk=>(simp only[go_sem,↓reduceIte];try with_unfolding_all rfl));(case hz=>(with_unfolding_all simp[go_sem,aH,a1,a2,k2,c1,c2,c4];done)))|(with_reducible apply aU [5168] bE (bF 0 100 [t.again]);(case hy|hl|hk=>(simp only[go_sem,↓reduceIte];try with_unfolding_all rfl));(case hz=>(with_unfolding_all simp[go_sem,aH,a1,a2,k2,c1,c2,c4];done)))|(with_reducible apply aU [6072] bE (bF 0 1000000000000000 [t.attach,t.width]);(case hy|hl|hk=>(simp only[go_sem,↓reduceIte];try with_unfolding_all rfl));(case hz=>(with_unfolding_all simp[go_sem,aH,a1,a2,k2,c1,c2,c4];done)))|(with_reducible apply aU [6168] bE (bF 0 100 [t.again]);(case hy|hl|hk=>(simp only[go_sem,↓reduceIte];try with_unfolding_all rfl));(case hz=>(with_unfolding_all simp[go_sem,aH,a1,a2,k2,c1,c2,c4];done))))
 all_goals have hw:=Fa t.width
 all_goals simp_all[Treaty.right]
 all_goals(intro h;exact absurd h byOmega)
theorem Xx (t:Treaty) (a1:aQ t.id 1 1000000000=true) (a2:¬jQ t.from_ t.to_=0) (k2:t.kind=2∨t.kind=3):Fun Tryz.prog 89 [.agg t.flat] (bool t.right):=by
 by_cases c1:t.bp=0
 ·cases c2:(aQ t.attach 0 1000000000000000&&aQ t.width 0 1000000000000000)
  ·exact Xu t a1 a2 k2 c1 c2
  ·by_cases c4:0<t.width
   ·exact Xv t a1 a2 k2 c1 c2 c4
   ·exact Xw t a1 a2 k2 c1 c2 c4
 ·exact Xt t a1 a2 k2 c1
theorem Fb (t:Treaty):Fun Tryz.prog 89 [.agg t.flat] (bool t.right):=by
 cases a1:aQ t.id 1 1000000000
 ·exact Xo t a1
 ·by_cases a2:jQ t.from_ t.to_=0
  ·exact Xp t a1 a2
  ·by_cases k1:t.kind=1
   ·exact Xq t a1 a2 k1
   ·by_cases k2:t.kind=2∨t.kind=3
    ·exact Xx t a1 a2 k2
    ·exact Xr t a1 a2 k1 (fun h=>k2 (.inl h)) (fun h=>k2 (.inr h))
deriving instance DecidableEq for Fact
section
attribute [local go_sem] Option.toList_some Option.toList_none
def vo:Change:=⟨0,0,0,0,0,0,0,[],0⟩
def vv:Claim:=⟨0,0,0,0,0,0⟩
def vw:Act:=⟨0,0,0⟩
def vz:Treaty:=⟨0,0,0,0,0,0,0,0,0⟩
theorem Xy (f:Fact):Fun Tryz.prog 323 [.agg [],.agg f.flat] (.agg {f with id:=0,terms:=fG}.flat):=by
 refine af Tryz.func323 fun cx hN hR hF hL=> ?_
 refine' run tt (l1 ?_)
 simp[fG]
theorem Xz (f:Fact):Fun Tryz.prog 324 [.agg [],.agg f.flat] (.agg {f with id:=0,change:=vo}.flat):=by
 refine af Tryz.func324 fun cx hN hR hF hL=> ?_
 refine' run tt (l1 ?_)
 simp[vo]
theorem XA (f:Fact):Fun Tryz.prog 325 [.agg [],.agg f.flat] (.agg {f with id:=0,amt:=0}.flat):=by
 refine af Tryz.func325 fun cx hN hR hF hL=> ?_
 exact run tt tt
theorem XB (f:Fact):Fun Tryz.prog 326 [.agg [],.agg f.flat] (.agg {f with claim:=vv}.flat):=by
 refine af Tryz.func326 fun cx hN hR hF hL=> ?_
 refine' run tt (l1 ?_)
 simp[vv]
theorem XC (f:Fact):Fun Tryz.prog 327 [.agg [],.agg f.flat] (.agg {f with id:=0,act:=vw}.flat):=by
 refine af Tryz.func327 fun cx hN hR hF hL=> ?_
 refine' run tt (l1 ?_)
 simp[vw]
theorem XD (f:Fact):Fun Tryz.prog 328 [.agg [],.agg f.flat] (.agg {f with treaty:=vz}.flat):=by
 refine af Tryz.func328 fun cx hN hR hF hL=> ?_
 refine' run tt (l1 ?_)
 simp[vz]
theorem XE (f:Fact):Fun Tryz.prog 329 [.agg [],.agg f.flat] (.agg {f with day:=0}.flat):=by
 refine af Tryz.func329 fun cx hN hR hF hL=> ?_
 exact run tt tt
theorem jy:Inv Tryz.prog 341 "bordereau/fact.rest" 323:=by intro v us w;kernel_rfl
theorem jA:Inv Tryz.prog 342 "bordereau/fact.rest" 324:=by intro v us w;kernel_rfl
theorem jB:Inv Tryz.prog 343 "bordereau/fact.rest" 325:=by intro v us w;kernel_rfl
theorem jC:Inv Tryz.prog 344 "bordereau/fact.rest" 326:=by intro v us w;kernel_rfl
theorem jD:Inv Tryz.prog 345 "bordereau/fact.rest" 327:=by intro v us w;kernel_rfl
theorem jE:Inv Tryz.prog 347 "bordereau/fact.rest" 328:=by intro v us w;kernel_rfl
theorem jF:Inv Tryz.prog 379 "bordereau/fact.rest" 329:=by intro v us w;kernel_rfl
def Fact.bareB (f:Fact):Bool:=
 decide (f.change.covers.length=0)&&decide (f.terms.covers.length=0)&&decide (f.id=0)&&decide (f.amt=0)&&decide (f.day=0)&&decide ([f.terms.from_,f.terms.to_]=[0,0])&&
  decide ([f.terms.kind,f.terms.value,f.terms.age,f.terms.zone]=[0,0,0,0])&&decide (f.change.booked=0)&&decide (f.change.day=0)&&decide (f.change.kind=0)&&decide (f.change.way=0)&&
  decide ([f.change.rk,f.change.rv,f.change.ra,f.change.rz]=[0,0,0,0])&&decide ([f.claim.id,f.claim.policy,f.claim.peril,f.claim.loss,f.claim.booked,f.claim.event]=[0,0,0,0,0,0])&&
  decide ([f.act.booked,f.act.kind,f.act.amt]=[0,0,0])&&decide ([f.treaty.id,f.treaty.kind,f.treaty.from_,f.treaty.to_,f.treaty.bp,f.treaty.attach,f.treaty.width,f.treaty.again,f.treaty.perils]=[0,0,0,0,0,0,0,0,0])
theorem sw (f:Fact):Fun Tryz.prog 190 [.agg f.flat] (bool f.bareB):=by
 refine af Tryz.func190 fun cx hN hR hF hL=> ?_
 refine' run tt (l4 fun K hK=> ?_)
 simp only[List.append_eq,List.cons_append,List.nil_append]
 (revert K;refine bK ?_;refine' run tt (l1 ?_))
 simp only[Fact.bareB,Int.natCast_eq_zero]
attribute [local go_sem] Int.reduceLT Int.reduceToNat in
theorem XF:aC Tryz.prog 189 [] [int 1] (.iface 341 (.agg [])) []:=by
 refine aW 1 Tryz.func189 (fun cx hN hR hF hL=> ?_)
 exact run tt tt
attribute [local go_sem] Int.reduceLT Int.reduceToNat in
theorem XG:aC Tryz.prog 189 [] [int 2] (.iface 342 (.agg [])) []:=by
 refine aW 1 Tryz.func189 (fun cx hN hR hF hL=> ?_)
 exact run tt tt
attribute [local go_sem] Int.reduceLT Int.reduceToNat in
theorem XH:aC Tryz.prog 189 [] [int 3] (.iface 343 (.agg [])) []:=by
 refine aW 1 Tryz.func189 (fun cx hN hR hF hL=> ?_)
 exact run tt tt
attribute [local go_sem] Int.reduceLT Int.reduceToNat in
theorem XI:aC Tryz.prog 189 [] [int 4] (.iface 344 (.agg [])) []:=by
 refine aW 1 Tryz.func189 (fun cx hN hR hF hL=> ?_)
 exact run tt tt
attribute [local go_sem] Int.reduceLT Int.reduceToNat in
theorem XJ:aC Tryz.prog 189 [] [int 5] (.iface 345 (.agg [])) []:=by
 refine aW 1 Tryz.func189 (fun cx hN hR hF hL=> ?_)
 exact run tt tt
attribute [local go_sem] Int.reduceLT Int.reduceToNat in
theorem XK:aC Tryz.prog 189 [] [int 6] (.iface 347 (.agg [])) []:=by
 refine aW 1 Tryz.func189 (fun cx hN hR hF hL=> ?_)
 exact run tt tt
attribute [local go_sem] Int.reduceLT Int.reduceToNat in
theorem XL:aC Tryz.prog 189 [] [int 7] (.iface 379 (.agg [])) []:=by
 refine aW 1 Tryz.func189 (fun cx hN hR hF hL=> ?_)
 exact run tt tt
theorem XM (k:Int) (h:¬(1≤k∧k≤7)):Fun Tryz.prog 189 [int k] (.v .nilIface):=by
 refine af Tryz.func189 fun cx hN hR hF hL=> ?_
 exact run tt tt
def only(f:Fact):Fact:=
 ⟨f.booked,f.kind,if f.kind=1∨f.kind=2∨f.kind=3∨f.kind=5 then f.id else 0,if f.kind=3 then f.amt else 0,if f.kind=7 then f.day else 0,if f.kind=1 then f.terms else fG,if f.kind=2 then f.change else vo,
   if f.kind=4 then f.claim else vv,if f.kind=5 then f.act else vw,if f.kind=6 then f.treaty else vz⟩
theorem jX (f:Fact):
 (f.kind=1→Fact.bareB {f with id:=0,terms:=fG}=decide (f=only f))∧(f.kind=2→Fact.bareB {f with id:=0,change:=vo}=decide (f=only f))∧(f.kind=3→Fact.bareB {f with id:=0,amt:=0}=decide (f=only f))∧
 (f.kind=4→Fact.bareB {f with claim:=vv}=decide (f=only f))∧(f.kind=5→Fact.bareB {f with id:=0,act:=vw}=decide (f=only f))∧(f.kind=6→Fact.bareB {f with treaty:=vz}=decide (f=only f))∧
 (f.kind=7→Fact.bareB {f with day:=0}=decide (f=only f)):=by
 obtain⟨b,k,i,a,d,t,c,l,e,y⟩:=f
 cases t;cases c;cases l;cases e;cases y
 refine⟨?_,?_,?_,?_,?_,?_,?_⟩
 all_goals(intro hk;simp only at hk;subst hk;rw[Bool.eq_iff_iff])
 all_goals simp[Fact.bareB,only,fG,vo,vv,vw,vz]
 all_goals grind
def Fact.asks (f:Fact):Bool:=
 if f.kind=1 then aQ f.id 1 1000000000&&f.terms.right else if f.kind=2 then aQ f.id 1 1000000000&&f.change.right&&decide (f.change.booked=f.booked) else if f.kind=3 then aQ f.id 1 1000000000&&aQ f.amt 1 1000000000000000
 else if f.kind=4 then f.claim.formed&&decide (f.claim.booked=f.booked) else if f.kind=5 then aQ f.id 1 1000000000&&f.act.right&&decide (f.act.booked=f.booked) else if f.kind=6 then f.treaty.right
 else if f.kind=7 then decide (1≤f.day)&&decide (f.day≤f.booked) else false
def Fact.right (f:Fact):Bool:=aQ f.booked 1 292194&&decide (f=only f)&&f.asks
theorem XN {f:Fact} (h:(f.booked<1∨292194<f.booked)∨¬f=only f):f.right=false:=by
 unfold Fact.right
 rcases h with h|h
 ·have:aQ f.booked 1 292194=false:=by simp[aQ];omega
  rw[this];rfl
 ·rw[decide_eq_false h];simp
theorem XO {f:Fact} (h:(1≤f.booked∧f.booked≤292194)∧f=only f):f.right=f.asks:=by
 unfold Fact.right
 have:aQ f.booked 1 292194=true:=by simp[aQ];omega
 rw[this,decide_eq_true h.2];simp
theorem sF {f z:Fact} (hz:z.bareB=decide (f=only f)) (h:(f.booked<1∨292194<f.booked)∨z.bareB=false):f.right=false:=
 XN (h.imp_right fun h=>by rw[hz] at h;simpa using h)
theorem sG {f z:Fact} (hz:z.bareB=decide (f=only f)) (h:(1≤f.booked∧f.booked≤292194)∧z.bareB=true):f.right=f.asks:=
 XO ⟨h.1,by have:=h.2;rw[hz] at this;simpa using this⟩
end
end Go.Proofs.YtlikpcpllahalaaGreat.V
