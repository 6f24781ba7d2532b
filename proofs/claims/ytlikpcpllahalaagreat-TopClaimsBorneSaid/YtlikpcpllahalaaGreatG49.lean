/- Parts of the proof. -/
import Derived.Test.YtlikpcpllahalaaGreatG47
import Derived.Test.YtlikpcpllahalaaGreatG45
import Derived.Test.YtlikpcpllahalaaGreatG44
import Derived.Test.YtlikpcpllahalaaGreatG48
set_option linter.unusedSimpArgs false
set_option linter.unusedVariables false
set_option maxHeartbeats 16000000
namespace Go.Proofs.YtlikpcpllahalaaGreat.V
open Go.RowKit
set_option maxRecDepth 100000
inductive Done (s:Stt) (f:Fact):Stt→Prop
 |bind (hk:f.kind=1) (hn:s.acc.findIdx? (fun a:Acct=>decide (a.h.id=f.id))=none) (hl:s.acc.length<2000) (hb:qf f.id f.booked f.terms=0) (hd:(sK ⟨f.id,f.booked,f.terms,[]⟩ s.tariff).2=0):
   Done s f ⟨s.tariff,BC (fun a=>a.h.id) s.acc ⟨⟨f.id,f.booked,f.terms,[]⟩,0⟩,s.files,s.tre,s.closed⟩
 |alter (hk:f.kind=2) (i:Nat) (a:Acct) (hx:s.acc.findIdx? (fun a:Acct=>decide (a.h.id=f.id))=some i) (ha:s.acc[i]? =some a) (hi:a.h.id=f.id) (hl:s.files.any (vC f)=false) (hp:ik a.h f.change=0)
   (hd:(sK ⟨a.h.id,a.h.booked,a.h.terms,a.h.changes++[f.change]⟩ s.tariff).2=0):Done s f ⟨s.tariff,s.acc.set i ⟨⟨a.h.id,a.h.booked,a.h.terms,a.h.changes++[f.change]⟩,a.paid⟩,s.files,s.tre,s.closed⟩
 |paid (hk:f.kind=3) (i:Nat) (a:Acct) (hx:s.acc.findIdx? (fun a:Acct=>decide (a.h.id=f.id))=some i) (ha:s.acc[i]? =some a) (hi:a.h.id=f.id) (hl:¬IntKind.i64.wrap (4000000000000000000-a.paid)<f.amt):
   Done s f ⟨s.tariff,s.acc.set i ⟨a.h,IntKind.i64.wrap (a.paid+f.amt)⟩,s.files,s.tre,s.closed⟩
 |loss (hk:f.kind=4) (a:Acct) (q:Cover) (hx:s.files.findIdx? (fun a:File=>decide (a.claim.id=f.claim.id))=none) (hl:s.files.length<2000) (ha:s.acct f.claim.policy=some a) (hc:dZ a.h s.tariff f.claim=(0,some q)):
   Done s f ⟨s.tariff,s.acc,BD (fun a=>a.claim.id) s.files ⟨f.claim,[]⟩,s.tre,s.closed⟩
 |act (hk:f.kind=5) (i:Nat) (g:File) (hx:s.files.findIdx? (fun a:File=>decide (a.claim.id=f.id))=some i) (hg:s.files[i]? =some g) (hi:g.claim.id=f.id) (hp:dL g f.act=0):
   Done s f ⟨s.tariff,s.acc,s.files.set i ⟨g.claim,g.acts++[f.act]⟩,s.tre,s.closed⟩
 |treaty (hk:f.kind=6) (h1:s.tre.any (fun x=>decide (x.id=f.treaty.id))=false) (h2:s.tre.length<100) (h3:vF s.tre f.treaty=false):Done s f ⟨s.tariff,s.acc,s.files,BF (fun x=>x.id) s.tre f.treaty,s.closed⟩
 |close (hk:f.kind=7) (h:s.closed<f.day):Done s f ⟨s.tariff,s.acc,s.files,s.tre,f.day⟩
theorem aam {h:History} {T:List Version} {c:Claim} (he:(dZ h T c).1=0):∃q,dZ h T c=(0,some q):=by
 cases hx:dZ h T c with
 |mk e o=>
  rw[hx] at he
  cases o with
  |some q=>exact⟨q,by rw[show e=0 from he]⟩
  |none=>
   exfalso
   have hr:(dZ h T c).2=none:=by rw[hx]
   unfold dZ at hr hx
   repeat' split at hr
   all_goals(simp_all)
theorem aan {s:Stt} {f:Fact} (he:lS s f=0):f.right=true∧s.closed<f.booked∧Done s f (bP s f).1:=by
 have hm:qM s f=0:=by
  unfold lS at he
  split at he
  ·assumption
  ·exact he
 obtain⟨hr,hb⟩:=ML hm
 refine⟨hr,by omega,?_⟩
 have h17:=MM hr
 have he:(bP s f).2=0:=by
  unfold lS at he
  rw[if_pos hm] at he
  exact he
 have h:f.kind=1∨f.kind=2∨f.kind=3∨f.kind=4∨f.kind=5∨f.kind=6∨f.kind=7:=byOmega
 rcases h with h|h|h|h|h|h|h
 ·have hd:bP s f=sM s f:=by unfold bP;rw[if_pos h]
  rw[hd] at he ⊢
  unfold sM at he ⊢
  cases hx:s.acc.findIdx? (fun a:Acct=>decide (a.h.id=f.id)) with
  |some i=>rw[hx] at he;simp at he
  |none=>
   rw[hx] at he
   simp only at he ⊢
   by_cases h2:2000≤s.acc.length
   ·rw[if_pos h2] at he;simp at he
   ·rw[if_neg h2] at he ⊢
    simp only at he ⊢
    have hb:qf f.id f.booked f.terms=0:=by
     unfold BI yu at he
     split at he
     ·assumption
     ·exact he
    have hB:l5 f.id f.booked f.terms=⟨f.id,f.booked,f.terms,[]⟩:=by
     unfold qf at hb
     unfold l5
     split at hb
     ·rename_i h;rw[if_pos h]
     ·simp at hb
    unfold BI yu at he
    rw[if_pos hb,hB] at he
    rw[hB]
    exact .bind h hx byOmega hb he
 ·have hd:bP s f=sQ s f:=by unfold bP;rw[if_neg byOmega,if_pos h]
  rw[hd] at he ⊢
  unfold sQ at he ⊢
  cases hx:s.acc.findIdx? (fun a:Acct=>decide (a.h.id=f.id)) with
  |none=>rw[hx] at he;simp at he
  |some i=>
   obtain⟨a,ha,hi,-⟩:=lQ hx
   rw[hx] at he
   simp only[ha] at he ⊢
   cases hl:s.files.any (vC f) with
   |true=>rw[hl] at he;simp at he
   |false=>
    rw[hl] at he
    simp only[Bool.false_eq_true,if_false] at he ⊢
    have hp:ik a.h f.change=0:=by
     unfold yw at he
     split at he
     ·assumption
     ·exact he
    have hH:iT a.h f.change=⟨a.h.id,a.h.booked,a.h.terms,a.h.changes++[f.change]⟩:=by rw[iT,if_pos hp]
    unfold yw at he
    rw[if_pos hp,hH] at he
    rw[hH]
    exact .alter h i a hx ha (of_decide_eq_true hi) hl hp he
 ·have hd:bP s f=sI s f:=by unfold bP;rw[if_neg byOmega,if_neg byOmega,if_pos h]
  rw[hd] at he ⊢
  unfold sI at he ⊢
  cases hx:s.acc.findIdx? (fun a:Acct=>decide (a.h.id=f.id)) with
  |none=>rw[hx] at he;simp at he
  |some i=>
   obtain⟨a,ha,hi,-⟩:=lQ hx
   rw[hx] at he
   simp only[ha] at he ⊢
   by_cases hl:IntKind.i64.wrap (4000000000000000000-a.paid)<f.amt
   ·rw[if_pos hl] at he;simp at he
   ·rw[if_neg hl]
    exact .paid h i a hx ha (of_decide_eq_true hi) hl
 ·have hd:bP s f=sN s f:=by unfold bP;rw[if_neg byOmega,if_neg byOmega,if_neg byOmega,if_pos h]
  rw[hd] at he ⊢
  unfold sN at he ⊢
  cases hx:s.files.findIdx? (fun a:File=>decide (a.claim.id=f.claim.id)) with
  |some i=>rw[hx] at he;simp at he
  |none=>
   rw[hx] at he
   simp only at he ⊢
   by_cases h2:2000≤s.files.length
   ·rw[if_pos h2] at he;simp at he
   ·rw[if_neg h2] at he ⊢
    cases ha:s.acct f.claim.policy with
    |none=>rw[ha] at he;simp at he
    |some a=>
     rw[ha] at he
     simp only at he ⊢
     obtain⟨q,hq⟩:=aam he
     exact .loss h a q hx byOmega ha hq
 ·have hd:bP s f=sJ s f:=by unfold bP;rw[if_neg byOmega,if_neg byOmega,if_neg byOmega,if_neg byOmega,if_pos h]
  rw[hd] at he ⊢
  unfold sJ at he ⊢
  cases hx:s.files.findIdx? (fun a:File=>decide (a.claim.id=f.id)) with
  |none=>rw[hx] at he;simp at he
  |some i=>
   obtain⟨g,hg,hi,-⟩:=lQ hx
   rw[hx] at he
   simp only[hg] at he ⊢
   have hF:mq g f.act=⟨g.claim,g.acts++[f.act]⟩:=by rw[mq,if_pos he]
   rw[hF]
   exact .act h i g hx hg (of_decide_eq_true hi) he
 ·have hd:bP s f=sW s f:=by unfold bP;rw[if_neg byOmega,if_neg byOmega,if_neg byOmega,if_neg byOmega,if_neg byOmega,if_pos h]
  rw[hd] at he ⊢
  unfold sW at he ⊢
  cases h1:s.tre.any (fun x=>decide (x.id=f.treaty.id)) with
  |true=>rw[h1] at he;simp at he
  |false=>
   rw[h1] at he
   simp only[Bool.false_eq_true,if_false] at he ⊢
   by_cases h2:100≤s.tre.length
   ·rw[if_pos h2] at he;simp at he
   ·rw[if_neg h2] at he ⊢
    cases h3:vF s.tre f.treaty with
    |true=>rw[h3] at he;simp at he
    |false=>
     simp only[Bool.false_eq_true,if_false]
     exact .treaty h h1 byOmega h3
 ·have hd:bP s f=sH s f:=by unfold bP;rw[if_neg byOmega,if_neg byOmega,if_neg byOmega,if_neg byOmega,if_neg byOmega,if_neg byOmega]
  rw[hd] at he ⊢
  unfold sH at he ⊢
  by_cases h1:f.day≤s.closed
  ·rw[if_pos h1] at he;simp at he
  ·rw[if_neg h1]
   exact .close h byOmega
theorem aao {P:Stt→Prop} {on:Int} {l:List Fact} {s:Stt} (h0:P s) (hs:∀s f S,f∈l→P s→f.right=true→s.closed<f.booked→f.booked≤on→Done s f S→P S):P (lT on s l):=by
 have key:∀i,i≤l.length→P (lT on s (l.take i)):=by
  intro i
  induction i with
  |zero=>intro _;exact h0
  |succ i ih=>
   intro hi
   have h1:i<l.length:=hi
   rw[List.take_add_one,List.getElem?_eq_getElem h1,Option.toList_some,FB]
   split
   ·exact ih byOmega
   ·unfold doX
    split
    ·rename_i h2 h3
     obtain⟨g1,g2,g3⟩:=aan h3
     exact hs _ _ _ (List.getElem_mem h1) (ih byOmega) g1 g2 byOmega g3
    ·exact ih byOmega
 have:=key l.length (Nat.le_refl _)
 rwa [List.take_length] at this
structure Mk (s:Stt):Prop where
 made:∀f,f∈s.files→f.made=true
 cov:∀a,a∈s.acc→(∀c,c∈a.h.terms.covers→c.ok)∧∀x,x∈a.h.changes→∀c,c∈x.covers→c.ok
theorem Mk.of {T:List Version} {on:Int} {l:List Fact} (hl:∀f,f∈l→f.terms.ok∧f.change.ok):Mk (lT on ⟨T,[],[],[],0⟩ l):=by
 refine aao ⟨by simp,by simp⟩ fun s f S hf h hr hb hd=> ?_
 have ho:=hl f hf
 intro hd
 cases hd with
 |bind hk hn h2 hb hd=>
  refine⟨h.made,fun a ha=> ?_⟩
  rcases BM.1 ha with rfl|ha
  ·exact⟨ho.1.2,by simp⟩
  ·exact h.cov a ha
 |alter hk i a hx ha hi h2 hp hd=>
  refine⟨h.made,fun b hb=> ?_⟩
  rcases List.mem_or_eq_of_mem_set hb with hb|rfl
  ·exact h.cov b hb
  ·have h3:=h.cov a (List.mem_of_getElem? ha)
   refine⟨h3.1,fun x hx=> ?_⟩
   rw[List.mem_append,List.mem_singleton] at hx
   rcases hx with hx|rfl
   ·exact h3.2 x hx
   ·exact ho.2.2
 |paid hk i a hx ha hi h2=>
  refine⟨h.made,fun b hb=> ?_⟩
  rcases List.mem_or_eq_of_mem_set hb with hb|rfl
  ·exact h.cov b hb
  ·exact h.cov a (List.mem_of_getElem? ha)
 |loss hk a q hx h2 ha hc=>
  refine⟨fun g hg=> ?_,h.cov⟩
  rcases BM.1 hg with rfl|hg
  ·rfl
  ·exact h.made g hg
 |act hk i g hx hg hi hp=>
  refine⟨fun b hb=> ?_,h.cov⟩
  rcases List.mem_or_eq_of_mem_set hb with hb|rfl
  ·exact h.made b hb
  ·rw[Vz (h.made g (List.mem_of_getElem? hg))]
   exact decide_eq_true hp
 |treaty hk h1 h2 h3=>exact⟨h.made,h.cov⟩
 |close hk h1=>exact⟨h.made,h.cov⟩
end Go.Proofs.YtlikpcpllahalaaGreat.V
namespace Go.Proofs.YtlikpcpllahalaaGreat.V
set_option maxRecDepth 100000
def jG (R:List (Int×Int×Int)) (k:Nat):Int:=(R.map fun r=>if r.1=(k:Int) then r.2.2 else 0).sum
def pu (R:List (Int×Int×Int)) (k:Nat):Int:=(R.map fun r=>if r.1<(k:Int) then r.2.2 else 0).sum
theorem FQ (R:List (Int×Int×Int)) (r:Int×Int×Int) (k:Nat):jG (R++[r]) k=jG R k+if r.1=(k:Int) then r.2.2 else 0:=by simp[jG]
theorem M4 {R:List (Int×Int×Int)} (h:∀r,r∈R→0≤r.1):pu R 0=0:=by
 induction R with
 |nil=>rfl
 |cons r R ih=>
  have h0:=h r ai
  have:=ih fun x hx=>h x (by simp[hx])
  unfold pu at *
  rw[List.map_cons,List.sum_cons,this,if_neg byOmega]
  rfl
theorem M5 (R:List (Int×Int×Int)) (k:Nat):pu R (k+1)=pu R k+jG R k:=by
 induction R with
 |nil=>rfl
 |cons r R ih=>
  unfold pu jG at *
  rw[List.map_cons,List.sum_cons,List.map_cons,List.sum_cons,List.map_cons,List.sum_cons,ih]
  split<;>split<;>split<;>omega
theorem M6 {R:List (Int×Int×Int)} {n:Nat} (h:∀r,r∈R→r.1<(n:Int)):pu R n=bV R:=by
 induction R with
 |nil=>rfl
 |cons r R ih=>
  have h0:=h r ai
  have:=ih fun x hx=>h x (by simp[hx])
  unfold pu bV at *
  rw[List.map_cons,List.sum_cons,this,if_pos h0,List.map_cons,List.sum_cons]
def eu (R:List (Int×Int×Int)) (l:List File):List Pos:=l.mapIdx fun k f=>{iq f.acts with paid:=jG R k}
theorem M7 (R:List (Int×Int×Int)) (l:List File):(eu R l).length=l.length:=by simp[eu]
theorem aap (R:List (Int×Int×Int)) {l:List File} {k:Nat} {f:File} (h:l[k]? =some f):eu R (l.take (k+1))=eu R (l.take k)++[{iq f.acts with paid:=jG R k}]:=by
 have hk:=(List.getElem?_eq_some_iff.1 h).1
 rw[List.take_add_one,h]
 simp[eu,List.mapIdx_append,Nat.min_eq_left (Nat.le_of_lt hk)]
theorem nN {R:List (Int×Int×Int)} {l:List File} {k:Nat} {f:File} (h:l[k]? =some f):(eu R l)[k]? =some {iq f.acts with paid:=jG R k}:=by
 simp[eu,h]
theorem aaq (l:List File):eu [] l=fH l:=by
 apply List.ext_getElem?
 intro k
 rcases h:l[k]? with _|f
 ·simp[eu,fH,h]
 ·rw[nN h]
  simp[fH,h,jG,iq]
theorem aar (R:List (Int×Int×Int)) (l:List File) (r:Int×Int×Int) {k:Nat} (hk:k<l.length) (hr:r.1=(k:Int)):eu (R++[r]) l=iI (eu R l) r:=by
 unfold iI
 rw[hr,Int.toNat_natCast]
 apply List.ext_getElem?
 intro j
 rw[List.getElem?_set]
 have hf:l[k]? =some l[k]:=List.getElem?_eq_getElem hk
 split
 ·rename_i h
  subst h
  rw[nN hf,if_pos (by rw[M7];exact hk),List.getD_eq_getElem?_getD,nN hf,FQ,if_pos hr]
  rfl
 ·rename_i h
  rcases h2:l[j]? with _|f
  ·simp[eu,h2]
  ·rw[nN h2,nN h2,FQ,if_neg byOmega,Int.add_zero]
theorem aas (l:List File) {R:List (Int×Int×Int)} (h:∀r,r∈R→∃k:Nat,k<l.length∧r.1=(k:Int)):R.foldl iI (fH l)=eu R l:=by
 have key:∀j,j≤R.length→(R.take j).foldl iI (fH l)=eu (R.take j) l:=by
  intro j
  induction j with
  |zero=>intro _;exact(aaq l).symm
  |succ j ih=>
   intro hj
   have e0:R[j]? =some R[j]:=List.getElem?_eq_getElem hj
   obtain⟨k,h1,h2⟩:=h _ (List.getElem_mem hj)
   rw[List.take_add_one,e0,List.foldl_append,ih byOmega]
   exact(aar _ l _ h1 h2).symm
 have:=key R.length (Nat.le_refl _)
 rwa [List.take_length] at this
theorem aat {R:List (Int×Int×Int)} {l:List File} {p:Pos} (h:p∈eu R l):p.reserve=0:=by
 obtain⟨k,hk⟩:=List.mem_iff_getElem?.1 h
 rcases h2:l[k]? with _|f
 ·simp[eu,h2] at hk
 ·rw[nN h2] at hk
  injection hk with hk
  subst hk
  rfl
end Go.Proofs.YtlikpcpllahalaaGreat.V
namespace Go.Proofs.YtlikpcpllahalaaGreat.V
set_option maxRecDepth 100000
theorem aau {c:Cover} (hr:c.rightB=true) {x:Int} (hx:0≤x):pays c x 0=gT c x:=by
 have h:=kL.1 hr
 have hb:=oO hr x
 rw[pays,if_pos ⟨hr,hx,Int.le_refl _⟩]
 omega
def vK (L:List Stp) (k:Nat):Int:=oP 2 ((L.filter fun s=>decide (s.file=(k:Int))).map Stp.act)
theorem FR (L:List Stp) (x:Stp) (k:Nat):vK (L++[x]) k=vK L k+if x.file=(k:Int) then(if x.act.kind=2 then x.act.amt else 0) else 0:=by
 unfold vK
 rw[List.filter_append]
 by_cases hk:x.file=(k:Int)
 ·rw[List.filter_cons_of_pos (by simpa using hk),List.filter_nil,List.map_append,List.map_singleton,EP,if_pos hk]
 ·rw[List.filter_cons_of_neg (by simpa using hk),List.filter_nil,List.append_nil,if_neg hk,Int.add_zero]
structure PI (c:Cover) (n:Nat) (L:List Stp) (s:PS):Prop where
 sh:∀k,k<n→s.shown.getD k 0=vK L k
 wo:∀k,k<n→s.paid.getD k 0≤gT c (s.shown.getD k 0)
 ro:∀k,k<n→jG s.out k=s.paid.getD k 0
 dy:(s.out.map fun r=>r.2.1).Sublist (L.map fun x=>x.act.booked)
theorem vL {l:List Int} {k:Nat} (hk:k<l.length) (v:Int) (j:Nat):(l.set k v).getD j 0=if k=j then v else l.getD j 0:=by
 rw[List.getD_eq_getElem?_getD,List.getElem?_set,List.getD_eq_getElem?_getD]
 by_cases h:k=j
 ·subst h
  rw[if_pos rfl,if_pos hk,if_pos rfl]
  rfl
 ·rw[if_neg h,if_neg h]
theorem PI.zero {c:Cover} (hr:c.rightB=true) (n:Nat):PI c n [] (ps0 n):=by
 have h0:∀k,(List.replicate n (0:Int)).getD k 0=0:=fun k=>Fq (P:=fun x=>x=0) rfl (fun x hx=>List.eq_of_mem_replicate hx) k
 refine⟨fun k _=> ?_,fun k _=> ?_,fun k _=> ?_,.slnil⟩
 ·simp only[ps0];rw[h0];rfl
 ·simp only[ps0];rw[h0];exact(oO hr 0).1
 ·simp only[ps0];rw[h0];rfl
theorem PI.step {c:Cover} {n m:Nat} {L:List Stp} {s:PS} (hr:c.rightB=true) (h:PI c n L s) (hB:PB c n m s) (x:Stp) {k:Nat} (hk:k<n) (hx:x.file=(k:Int)) (ha:0≤x.act.amt):PI c n (L++[x]) (lK c s x):=by
 have g2:=hB.get2 k
 have gb:=hB.al
 have hcv:=kL.1 hr
 have l1:=hB.l1
 have l2:=hB.l2
 have hb:=yl (c:=c) hr (s.shown.getD k 0+x.act.amt) (used:=s.all-s.paid.getD k 0) byOmega
 have hm:=EN hr (a:=s.shown.getD k 0) (b:=s.shown.getD k 0+x.act.amt) byOmega
 have hL:(L.map fun x=>x.act.booked).Sublist ((L++[x]).map fun x=>x.act.booked):=by rw[List.map_append];exact List.sublist_append_left ..
 unfold lK
 rw[hx,Int.toNat_natCast]
 by_cases h2:x.act.kind=2
 ·rw[if_pos h2]
  simp only
  by_cases hw:pays c (s.shown.getD k 0+x.act.amt) (s.all-s.paid.getD k 0)-s.paid.getD k 0≤0
  ·rw[if_pos hw]
   refine⟨fun j hj=> ?_,fun j hj=> ?_,fun j hj=>h.ro j hj,h.dy.trans hL⟩
   ·have:=h.sh j hj
    rw[vL byOmega,FR,hx]
    by_cases hkj:k=j
    ·subst hkj;rw[if_pos rfl,if_pos rfl,if_pos h2,this]
    ·rw[if_neg hkj,if_neg byOmega];omega
   ·have:=h.wo j hj
    show s.paid.getD j 0≤gT c _
    rw[vL byOmega]
    by_cases hkj:k=j
    ·subst hkj;rw[if_pos rfl];omega
    ·rw[if_neg hkj];exact this
  ·rw[if_neg hw]
   refine⟨fun j hj=> ?_,fun j hj=> ?_,fun j hj=> ?_,?_⟩
   ·have:=h.sh j hj
    rw[vL byOmega,FR,hx]
    by_cases hkj:k=j
    ·subst hkj;rw[if_pos rfl,if_pos rfl,if_pos h2,this]
    ·rw[if_neg hkj,if_neg byOmega];omega
   ·have:=h.wo j hj
    rw[vL byOmega,vL byOmega]
    by_cases hkj:k=j
    ·subst hkj;rw[if_pos rfl,if_pos rfl];omega
    ·rw[if_neg hkj,if_neg hkj];exact this
   ·have:=h.ro j hj
    simp only
    rw[vL byOmega,FQ]
    simp only
    by_cases hkj:k=j
    ·subst hkj;rw[if_pos rfl,if_pos rfl];omega
    ·rw[if_neg hkj,if_neg byOmega];omega
   ·simp only
    rw[List.map_append,List.map_append]
    exact h.dy.append (List.Sublist.refl _)
 ·rw[if_neg h2]
  refine⟨fun j hj=> ?_,fun j hj=>h.wo j hj,fun j hj=>h.ro j hj,h.dy.trans hL⟩
  rw[h.sh j hj,FR,if_neg h2]
  simp
theorem M8 {c:Cover} {l:List File} (h:bL c l=true):∀i,i≤(bi l).length→PI c l.length ((bi l).take i) (dX c l.length ((bi l).take i)):=by
 have hr:c.rightB=true:=by rw[bL,Bool.and_eq_true] at h;exact h.1
 have hPB:=tu hr l.length (L:=bi l) fun x hx=>by obtain⟨_,_,_,_,h⟩:=nK h hx;exact h
 intro i
 induction i with
 |zero=>intro _;exact PI.zero hr _
 |succ i ih=>
  intro hi
  have e0:(bi l)[i]? =some (bi l)[i]:=List.getElem?_eq_getElem hi
  obtain⟨k,h1,h2,_,h3,_⟩:=nK h (List.getElem_mem hi)
  rw[yA e0,List.take_add_one,e0]
  exact(ih byOmega).step hr (hPB i byOmega) _ h1 h2 h3
theorem BS {c:Cover} {l:List File} (he:bO c l=0):bL c l=true∧l.length≤2000∧dm l≤2000:=by
 have har:bL c l=true:=by
  cases h:bL c l with
  |true=>rfl
  |false=>simp[bO,h] at he
 refine⟨har,?_⟩
 unfold bO at he
 split at he;·cases he
 split at he;·cases he
 omega
theorem aav {c:Cover} {l:List File} (h:bL c l=true) {f:File} (hf:f∈l):Good f.claim f.acts:=by
 rw[bL,Bool.and_eq_true,List.all_eq_true] at h
 have:=h.2 f hf
 rw[iW,Bool.and_eq_true] at this
 exact u6 this.2
theorem FT {c:Cover} {l:List File} (he:bO c l=0) {k:Nat} {f:File} (hf:l[k]? =some f):0≤jG (bA c l) k∧jG (bA c l) k≤gT c (iq f.acts).shown∧(iq f.acts).shown≤(iq f.acts).gross∧0≤(iq f.acts).shown∧(iq f.acts).gross≤1000000000000000:=by
 obtain⟨har,_⟩:=BS he
 have hr:c.rightB=true:=by rw[bL,Bool.and_eq_true] at har;exact har.1
 have hk:=(List.getElem?_eq_some_iff.1 hf).1
 have hI:=M8 har (bi l).length (Nat.le_refl _)
 rw[List.take_length] at hI
 have hg:=aav har (List.mem_of_getElem? hf)
 have h1:=hI.sh k hk
 have h2:=hI.wo k hk
 have h3:=hI.ro k hk
 have h4:vK (bi l) k=oP 2 f.acts:=by
  rw[vK,Y9 (Zn har),vH,hf]
  simp only[List.map_map]
  congr 1
  exact List.map_id _
 rw[h1,h4,←hg.shownE] at h2
 rw[bA,if_pos he,h3]
 have g1:=hg.shown
 have g2:=hg.gross
 have hPB:=tu hr l.length (L:=bi l) (fun x hx=>by obtain⟨_,_,_,_,h⟩:=nK har hx;exact h) (bi l).length (Nat.le_refl _)
 rw[List.take_length] at hPB
 have:=hPB.get2 k
 simp only[iq]
 omega
theorem M9 {c:Cover} {l:List File} (he:bO c l=0):0≤bV (bA c l)∧bV (bA c l)≤c.agg:=by
 obtain⟨har,_⟩:=BS he
 have hr:c.rightB=true:=by rw[bL,Bool.and_eq_true] at har;exact har.1
 have hPB:=tu hr l.length (L:=bi l) (fun x hx=>by obtain⟨_,_,_,_,h⟩:=nK har hx;exact h) (bi l).length (Nat.le_refl _)
 rw[List.take_length] at hPB
 have hs:=Zp har (bi l).length (Nat.le_refl _)
 rw[List.take_length] at hs
 have hI:=M8 har (bi l).length (Nat.le_refl _)
 rw[List.take_length] at hI
 have key:∀j,j≤l.length→pu (dX c l.length (bi l)).out j=((dX c l.length (bi l)).paid.take j).sum:=by
  intro j
  induction j with
  |zero=>
   intro _
   rw[M4 fun r hm=>by
    obtain⟨k,_,h,_⟩:=(rows_ok he).2 r (by rw[bA,if_pos he];exact hm)
    omega]
   rfl
  |succ j ih=>
   intro hj
   have hl:=hPB.l2
   have e0:(dX c l.length (bi l)).paid[j]? =some ((dX c l.length (bi l)).paid.getD j 0):=by rw[List.getD_eq_getElem?_getD,List.getElem?_eq_getElem byOmega];rfl
   rw[M5,ih byOmega,hI.ro j byOmega,List.take_add_one,e0]
   simp
 have h1:=key l.length (Nat.le_refl _)
 rw[List.take_of_length_le (by rw[hPB.l2];omega),hs,M6 fun r hm=>by
  obtain⟨k,h0,h,_⟩:=(rows_ok he).2 r (by rw[bA,if_pos he];exact hm)
  omega] at h1
 rw[bA,if_pos he,h1]
 exact hPB.al
theorem FU {c:Cover} {l:List File} (he:bO c l=0):fA c l=iJ c (bV (bA c l)) (eu (bA c l) l):=by
 rw[fA,if_pos he,aas l fun r hr=>by
  obtain⟨k,h1,h2,_⟩:=(rows_ok he).2 r hr
  exact⟨k,h1,h2⟩]
 rfl
theorem FV {c:Cover} {l:List File} (he:bO c l=0):(fA c l).length=l.length:=by rw[FU he,o8,M7]
theorem Na {c:Cover} (hr:c.rightB=true) (u:Int) (p:Pos) (hu:u≤c.agg) (h0:0≤p.paid) (h1:p.paid≤gT c p.gross):0≤eZ c u p∧u+eZ c u p≤c.agg∧p.paid+eZ c u p≤gT c p.gross:=by
 have hb:=yl (c:=c) hr p.gross (used:=u-p.paid) byOmega
 unfold eZ
 split<;>omega
theorem FW {c:Cover} (hr:c.rightB=true):∀ {P:List Pos} {u:Int},(∀p,p∈P→0≤p.paid∧p.paid≤gT c p.gross)→u≤c.agg→∀i,fI c u P i≤c.agg
 | [],u,_,h,0=>h
 | [],u,_,h,_+1=>h
 |_::_,u,_,h,0=>h
 |p::P,u,h1,h,i+1=>by
  have:=h1 p ai
  exact FW hr (fun q hq=>h1 q (by simp[hq])) (Na hr u p h this.1 this.2).2.1 i
theorem aaw {c:Cover} {l:List File} (he:bO c l=0) {k:Nat} {f:File} (hf:l[k]? =some f):
 ∃r:Int,(fA c l)[k]? =some {iq f.acts with paid:=jG (bA c l) k,reserve:=r}∧0≤r∧jG (bA c l) k+r≤gT c (iq f.acts).gross∧((iq f.acts).opn=false→r=0)
  ∧r=eZ c (fI c (bV (bA c l)) (eu (bA c l) l) k) {iq f.acts with paid:=jG (bA c l) k}:=by
 obtain⟨har,_⟩:=BS he
 have hr:c.rightB=true:=by rw[bL,Bool.and_eq_true] at har;exact har.1
 have hp:∀p,p∈eu (bA c l) l→0≤p.paid∧p.paid≤gT c p.gross:=by
  intro p hp
  obtain⟨j,hj⟩:=List.mem_iff_getElem?.1 hp
  rcases h2:l[j]? with _|g
  ·simp[eu,h2] at hj
  ·rw[nN h2] at hj
   injection hj with hj
   subst hj
   have h1:=FT he h2
   have h3:=EN hr h1.2.2.1
   simp only
   omega
 have h1:=Fy c _ (bV (bA c l)) k _ (nN (R:=bA c l) hf)
 have hu:=FW hr hp (M9 he).2 k
 have h2:=hp _ (List.mem_of_getElem? (nN (R:=bA c l) hf))
 have h3:=Na hr _ _ hu h2.1 h2.2
 refine⟨_,?_,h3.1,h3.2.2,fun ho=> ?_,rfl⟩
 ·rw[FU he,h1]
  unfold tC
  congr 2
  split
  ·rfl
  ·rename_i ho
   unfold eZ
   rw[if_neg ho]
   rfl
 ·unfold eZ
  simp only[ho]
  rfl
def fB (P:List Pos):Int:=(P.map fun p=>p.paid+p.reserve).sum
theorem Nb (c:Cover):∀(P:List Pos) (u:Int),(∀p,p∈P→p.reserve=0)→fB (iJ c u P)+u=(P.map Pos.paid).sum+fI c u P P.length
 | [],u,_=>by simp[iJ,fB,fI]
 |p::P,u,h=>by
  have h0:=h p ai
  have ih:=Nb c P (u+eZ c u p) fun q hq=>h q (by simp[hq])
  have h1:fB (iJ c u (p::P))=p.paid+eZ c u p+fB (iJ c (u+eZ c u p) P):=by
   rw[iJ,fB,List.map_cons,List.sum_cons]
   simp only[fB]
   split
   ·rfl
   ·rename_i ho
    rw[h0]
    unfold eZ
    rw[if_neg ho]
  rw[h1,List.map_cons,List.sum_cons,List.length_cons,fI]
  omega
theorem aax {R:List (Int×Int×Int)} {l:List File} (h:∀r,r∈R→0≤r.1):∀j,j≤l.length→((eu R (l.take j)).map Pos.paid).sum=pu R j:=by
 intro j
 induction j with
 |zero=>intro _;rw[M4 h];simp[eu]
 |succ j ih=>
  intro hj
  rw[aap R (List.getElem?_eq_getElem hj),List.map_append,List.sum_append,ih byOmega,M5]
  simp
theorem aay {c:Cover} {l:List File} (he:bO c l=0):fB (fA c l)≤c.agg:=by
 obtain⟨har,_⟩:=BS he
 have hr:c.rightB=true:=by rw[bL,Bool.and_eq_true] at har;exact har.1
 have hp:∀p,p∈eu (bA c l) l→0≤p.paid∧p.paid≤gT c p.gross:=by
  intro p hp
  obtain⟨j,hj⟩:=List.mem_iff_getElem?.1 hp
  rcases h2:l[j]? with _|g
  ·simp[eu,h2] at hj
  ·rw[nN h2] at hj
   injection hj with hj
   subst hj
   have h1:=FT he h2
   have h3:=EN hr h1.2.2.1
   simp only
   omega
 have h1:=Nb c (eu (bA c l) l) (bV (bA c l)) fun p hp=>aat hp
 have h2:=aax (R:=bA c l) (l:=l) (fun r hm=>by
  obtain⟨k,_,h,_⟩:=(rows_ok he).2 r hm
  omega) l.length (Nat.le_refl _)
 rw[List.take_length,M6 fun r hm=>by
  obtain⟨k,h0,h,_⟩:=(rows_ok he).2 r hm
  omega] at h2
 have h3:=FW hr hp (M9 he).2 (eu (bA c l) l).length
 rw[FU he]
 omega
end Go.Proofs.YtlikpcpllahalaaGreat.V
namespace Go.Proofs.YtlikpcpllahalaaGreat.V
open Go.RowKit
set_option maxRecDepth 100000
attribute [local go_sem] Option.toList_some Option.toList_none
end Go.Proofs.YtlikpcpllahalaaGreat.V
namespace Go.Proofs.YtlikpcpllahalaaGreat.V
open Go.RowKit
set_option maxRecDepth 100000
attribute [local go_sem] Option.toList_some Option.toList_none
end Go.Proofs.YtlikpcpllahalaaGreat.V
namespace Go.Proofs.YtlikpcpllahalaaGreat.V
open Go.RowKit
set_option maxRecDepth 100000
attribute [local go_sem] Option.toList_some Option.toList_none
end Go.Proofs.YtlikpcpllahalaaGreat.V
namespace Go.Proofs.YtlikpcpllahalaaGreat.V
open Go.RowKit
set_option maxRecDepth 100000
attribute [local go_sem] Option.toList_some Option.toList_none
end Go.Proofs.YtlikpcpllahalaaGreat.V
namespace Go.Proofs.YtlikpcpllahalaaGreat.V
open Go.RowKit
set_option maxRecDepth 100000
attribute [local go_sem] Option.toList_some Option.toList_none
def yB:Cover:=⟨2,1000,1500,100,10000⟩
end Go.Proofs.YtlikpcpllahalaaGreat.V
namespace Go.Proofs.YtlikpcpllahalaaGreat.V
end Go.Proofs.YtlikpcpllahalaaGreat.V
namespace Go.Proofs.YtlikpcpllahalaaGreat.V
open Go.RowKit
set_option maxRecDepth 100000
attribute [local go_sem] Option.toList_some Option.toList_none
theorem aaz {P:List Pos} {i:Nat} {p:Pos} (h:P[i]? =some p):fB (P.take (i+1))=fB (P.take i)+(p.paid+p.reserve):=by
 rw[List.take_add_one,h]
 simp[fB]
theorem FX:∀ {P:List Pos},(∀p,p∈P→0≤p.paid∧0≤p.reserve)→0≤fB P
 | [],_=>Int.le_refl _
 |p::P,h=>by
  have h1:=h p ai
  have h2:=FX (P:=P) fun q hq=>h q (by simp[hq])
  unfold fB at *
  rw[List.map_cons,List.sum_cons]
  omega
theorem aaA {P:List Pos} (h:∀p,p∈P→0≤p.paid∧0≤p.reserve) (i:Nat):0≤fB (P.take i)∧fB (P.take i)≤fB P:=by
 have h1:=FX (P:=P.take i) fun p hp=>h p (List.mem_of_mem_take hp)
 have h2:=FX (P:=P.drop i) fun p hp=>h p (List.mem_of_mem_drop hp)
 have h3:fB P=fB (P.take i)+fB (P.drop i):=by
  conv=>lhs;rw[←List.take_append_drop i P]
  rw[fB,List.map_append,List.sum_append]
  rfl
 omega
theorem aaB {c:Cover} {l:List File} (he:bO c l=0) {p:Pos} (h:p∈fA c l):0≤p.paid∧0≤p.reserve∧p.paid+p.reserve≤gT c p.gross∧p.shown≤p.gross∧0≤p.gross∧p.gross≤1000000000000000∧(p.opn=false→p.reserve=0):=by
 obtain⟨k,hk⟩:=List.mem_iff_getElem?.1 h
 have hkl:=(List.getElem?_eq_some_iff.1 hk).1
 rw[FV he] at hkl
 have e0:l[k]? =some l[k]:=List.getElem?_eq_getElem hkl
 obtain⟨r,h1,h2,h3,h4,-⟩:=aaw he e0
 have h5:=FT he e0
 rw[h1] at hk
 injection hk with hk
 subst hk
 exact⟨h5.1,h2,h3,h5.2.2.1,by simp only;omega,h5.2.2.2.2,h4⟩
end Go.Proofs.YtlikpcpllahalaaGreat.V
namespace Go.Proofs.YtlikpcpllahalaaGreat.V
open Go.RowKit
set_option maxRecDepth 100000
def aR (s:Stt) (ks:List Int):List File:=ks.filterMap fun k=>s.files[k.toNat]?
theorem Nc (s:Stt) (ks:List Int) {k:Nat} {f:File} (h:s.files[k]? =some f):aR s (ks++[(k:Int)])=aR s ks++[f]:=by
 simp[aR,List.filterMap_append,h]
theorem yC {s:Stt}:∀ {ks:List Int},(∀k,k∈ks→∃f,s.files[k.toNat]? =some f)→(aR s ks).length=ks.length
 | [],_=>rfl
 |k::ks,h=>by
  obtain⟨f,hf⟩:=h k ai
  rw[aR,List.filterMap_cons,hf]
  simp only[List.length_cons]
  rw[←yC (ks:=ks) fun q hq=>h q (by simp[hq])]
  rfl
theorem aaC {s:Stt} {ks:List Int} {f:File} (h:f∈aR s ks):∃k,k∈ks∧s.files[k.toNat]? =some f:=by
 rw[aR,List.mem_filterMap] at h
 exact h
def gF (out:List Pos) (ks:List Int) (st:List Pos):List Pos:=(ks.zip st).foldl (fun o p=>o.set p.1.toNat p.2) out
theorem yD:∀(ks:List Int) (st out:List Pos),(gF out ks st).length=out.length
 | [],_,_=>by simp[gF]
 |_::_,[],_=>by simp[gF]
 |k::ks,p::st,out=>by
  have:=yD ks st (out.set k.toNat p)
  rw[List.length_set] at this
  exact this
theorem FY {j:Nat}:∀ {ks:List Int} {st out:List Pos},(∀k,k∈ks→k.toNat≠j)→(gF out ks st)[j]? =out[j]?
 | [],_,_,_=>by simp[gF]
 |_::_,[],_,_=>by simp[gF]
 |k::ks,p::st,out,h=>by
  have:=FY (j:=j) (ks:=ks) (st:=st) (out:=out.set k.toNat p) fun q hq=>h q (by simp[hq])
  rw[List.getElem?_set,if_neg (h k ai)] at this
  exact this
theorem Nf:∀ {ks:List Int} {st out:List Pos} {m:Nat} {k:Int} {p:Pos},ks.Nodup→(∀k,k∈ks→0≤k∧k.toNat<out.length)→ks[m]? =some k→st[m]? =some p→(gF out ks st)[k.toNat]? =some p
 | [],_,_,_,_,_,_,_,h,_=>by simp at h
 |_::_,[],_,_,_,_,_,_,_,h=>by simp at h
 |q::ks,r::st,out,0,k,p,hn,hr,hk,hp=>by
  injection hk with hk
  injection hp with hp
  subst hk hp
  rw[List.nodup_cons] at hn
  have h0:=hr q ai
  have:=FY (j:=q.toNat) (ks:=ks) (st:=st) (out:=out.set q.toNat r) fun x hx he=>by
   have h1:=hr x (by simp[hx])
   have:x=q:=byOmega
   exact hn.1 (this▸hx)
  rw[List.getElem?_set,if_pos rfl,if_pos h0.2] at this
  exact this
 |q::ks,r::st,out,m+1,k,p,hn,hr,hk,hp=>by
  rw[List.nodup_cons] at hn
  exact Nf (ks:=ks) (st:=st) (out:=out.set q.toNat r) hn.2 (fun x hx=>by rw[List.length_set];exact hr x (by simp[hx])) (by simpa using hk) (by simpa using hp)
structure GP (s:Stt) (k:Nat) (out:List Gr):Prop where
 nd:(out.flatMap Gr.at_).Nodup
 rg:∀j,j∈out.flatMap Gr.at_→0≤j∧j<k
 ok:∀g,g∈out→∀j,j∈g.at_→∃f,s.files[j.toNat]? =some f∧f.claim.policy=g.policy∧vI s f=(0,some g.cover)
 ky:∀(i j:Nat) (g h:Gr),out[i]? =some g→out[j]? =some h→g.policy=h.policy→g.cover=h.cover→i=j
theorem GP.zero (s:Stt):GP s 0 []:=⟨by simp,by simp,by simp,by simp⟩
theorem Ng (k:Int) (p:Int) (c:Cover):∀ {out:List Gr} {i:Nat} {g:Gr},out[i]? =some g→((out.set i ⟨p,c,g.at_++[k]⟩).flatMap Gr.at_).Perm (k::out.flatMap Gr.at_)
 | [],_,_,h=>by simp at h
 |x::out,0,g,h=>by
  injection h with h
  subst h
  rw[List.set_cons_zero,List.flatMap_cons,List.flatMap_cons]
  show(x.at_++[k]++_).Perm _
  rw[List.append_assoc]
  exact List.perm_middle
 |x::out,i+1,g,h=>by
  rw[List.set_cons_succ,List.flatMap_cons,List.flatMap_cons]
  exact(List.Perm.append_left _ (Ng k p c (by simpa using h))).trans List.perm_middle
theorem tK {p:Int} {c:Cover} {g:Gr}:jY p c g=true↔g.policy=p∧g.cover=c:=by simp[jY]
theorem GP.add {s:Stt} {k:Nat} {out:List Gr} (h:GP s k out) {f:File} {c:Cover} (hf:s.files[k]? =some f) (hc:vI s f=(0,some c)):GP s (k+1) (nM out f.claim.policy c k):=by
 have hk:(k:Int)∉out.flatMap Gr.at_:=fun hm=>by have:=(h.rg _ hm).2;omega
 unfold nM
 cases hx:out.findIdx? (jY f.claim.policy c) with
 |some i=>
  obtain⟨g,hg,hi,-⟩:=lQ hx
  obtain⟨hp,hcv⟩:=tK.1 hi
  simp only[hg]
  have hP:=Ng (k:Int) g.policy g.cover hg
  refine⟨hP.nodup_iff.2 (List.nodup_cons.2 ⟨hk,h.nd⟩),fun j hj=> ?_,fun q hq j hj=> ?_,fun a b x y hxa hyb e1 e2=> ?_⟩
  ·rcases List.mem_cons.1 (hP.mem_iff.1 hj) with rfl|hj
   ·omega
   ·have:=h.rg j hj;omega
  ·rcases List.mem_or_eq_of_mem_set hq with hq|rfl
   ·exact h.ok q hq j hj
   ·simp only at hj ⊢
    rw[List.mem_append,List.mem_singleton] at hj
    rcases hj with hj|rfl
    ·exact h.ok g (List.mem_of_getElem? hg) j hj
    ·exact⟨f,by simpa using hf,hp.symm,by rw[hcv];exact hc⟩
  ·have key:∀ {a:Nat} {x:Gr},(out.set i ⟨g.policy,g.cover,g.at_++[(k:Int)]⟩)[a]? =some x→∃x',out[a]? =some x'∧x'.policy=x.policy∧x'.cover=x.cover:=by
    intro a x hxa
    rw[List.getElem?_set] at hxa
    split at hxa
    ·rename_i he
     split at hxa
     ·injection hxa with hxa;subst hxa he;exact⟨g,hg,rfl,rfl⟩
     ·cases hxa
    ·exact⟨x,hxa,rfl,rfl⟩
   obtain⟨x',h1,h2,h3⟩:=key hxa
   obtain⟨y',h4,h5,h6⟩:=key hyb
   exact h.ky a b x' y' h1 h4 byOmega (by rw[h3,h6,e2])
 |none=>
  have hno:∀g,g∈out→¬(g.policy=f.claim.policy∧g.cover=c):=fun g hg he=>by
   have:=List.findIdx?_eq_none_iff.1 hx g hg
   rw[tK.2 he] at this
   cases this
  simp only
  have hP:((out++[(⟨f.claim.policy,c,[(k:Int)]⟩:Gr)]).flatMap Gr.at_).Perm ((k:Int)::out.flatMap Gr.at_):=by
   rw[List.flatMap_append]
   simp only[List.flatMap_cons,List.flatMap_nil,List.append_nil]
   exact List.perm_append_singleton _ _
  refine⟨hP.nodup_iff.2 (List.nodup_cons.2 ⟨hk,h.nd⟩),fun j hj=> ?_,fun q hq j hj=> ?_,fun a b x y hxa hyb e1 e2=> ?_⟩
  ·rcases List.mem_cons.1 (hP.mem_iff.1 hj) with rfl|hj
   ·omega
   ·have:=h.rg j hj;omega
  ·rw[List.mem_append,List.mem_singleton] at hq
   rcases hq with hq|rfl
   ·exact h.ok q hq j hj
   ·simp only[List.mem_singleton] at hj
    subst hj
    exact⟨f,by simpa using hf,rfl,hc⟩
  ·have key:∀ {a:Nat} {x:Gr},(out++[(⟨f.claim.policy,c,[(k:Int)]⟩:Gr)])[a]? =some x→out[a]? =some x∨(a=out.length∧x.policy=f.claim.policy∧x.cover=c):=by
    intro a x hxa
    rw[List.getElem?_append] at hxa
    split at hxa
    ·exact .inl hxa
    ·have:a-out.length=0:=by
      have:=(List.getElem?_eq_some_iff.1 hxa).1
      simpa using this
     rw[this] at hxa
     injection hxa with hxa
     subst hxa
     exact .inr ⟨by omega,rfl,rfl⟩
   rcases key hxa with h1|⟨h1,h2,h3⟩
   ·rcases key hyb with h4|⟨h4,h5,h6⟩
    ·exact h.ky a b x y h1 h4 e1 e2
    ·exact absurd ⟨by omega,by rw[e2,h6]⟩ (hno x (List.mem_of_getElem? h1))
   ·rcases key hyb with h4|⟨h4,h5,h6⟩
    ·exact absurd ⟨by omega,by rw[←e2,h3]⟩ (hno y (List.mem_of_getElem? h4))
    ·omega
theorem Nh {s:Stt}:∀ {l:List File} {k:Nat} {out:List Gr},s.files.drop k=l→(kR s k out l).1=0→GP s k out→GrOk k out→GP s (k+l.length) (kR s k out l).2∧GrOk (k+l.length) (kR s k out l).2
 | [],k,out,_,_,h,h'=>⟨h,h'⟩
 |f::l,k,out,hl,he,h,h'=>by
  have hf:s.files[k]? =some f:=by
   have:(s.files.drop k)[0]? =some f:=by rw[hl];rfl
   rw[List.getElem?_drop] at this
   simpa using this
  have hl2:s.files.drop (k+1)=l:=by
   have:(s.files.drop k).drop 1=l:=by rw[hl];rfl
   rw[List.drop_drop] at this
   exact this
  rw[kR] at he ⊢
  have hz:= @FK (s.his f.claim.policy) s.tariff f.claim
  cases hc:vI s f with
  |mk e o=>
   have hc':dZ (s.his f.claim.policy) s.tariff f.claim=(e,o):=hc
   rw[hc'] at hz
   rw[hc] at he
   cases o with
   |none=>
    simp only at he hz
    exact absurd he (hz.1 trivial)
   |some c=>
    simp only at he hz ⊢
    have e0:e=0:=by
     by_cases h:e=0
     ·exact h
     ·exact absurd (hz.2 h) ai
    subst e0
    have:=Nh (s:=s) (l:=l) (k:=k+1) hl2 he (h.add hf hc) (h'.add _ _ _)
    rw[List.length_cons,show k+(l.length+1)=k+1+l.length by omega]
    exact this
theorem FZ {s:Stt} (he:(eO s).1=0):GP s s.files.length (eO s).2∧GrOk s.files.length (eO s).2:=by
 have:=Nh (s:=s) (l:=s.files) (k:=0) (out:=[]) rfl he (GP.zero s) GrOk.zero
 rwa [Nat.zero_add] at this
def mE (s:Stt):List Gr→List Pos→Int×List Pos
 | [],out=>(0,out)
 |g::l,out=>if bO g.cover (aR s g.at_)=0 then mE s l (gF out g.at_ (fA g.cover (aR s g.at_))) else(bO g.cover (aR s g.at_),[])
def vM:Pos:=⟨0,0,0,0,0,false⟩
def nO (s:Stt):Int×List Pos:=if(eO s).1=0 then mE s (eO s).2 (List.replicate s.files.length vM) else((eO s).1,[])
theorem Ni {s:Stt} {j:Nat}:∀ {l:List Gr} {out:List Pos},(∀g,g∈l→bO g.cover (aR s g.at_)=0)→(∀k,k∈l.flatMap Gr.at_→k.toNat≠j)→(mE s l out).2[j]? =out[j]?
 | [],_,_,_=>rfl
 |g::l,out,he,h=>by
  rw[mE,if_pos (he g ai),Ni (l:=l) (fun q hq=>he q (by simp[hq])) fun k hk=>h k (by rw[List.flatMap_cons,List.mem_append];exact .inr hk)]
  exact FY fun k hk=>h k (by rw[List.flatMap_cons,List.mem_append];exact .inl hk)
theorem Nj {s:Stt}:∀ {l:List Gr} {out:List Pos},(∀g,g∈l→bO g.cover (aR s g.at_)=0)→(l.flatMap Gr.at_).Nodup→(∀k,k∈l.flatMap Gr.at_→0≤k∧k.toNat<out.length)→
 (mE s l out).1=0∧(mE s l out).2.length=out.length∧∀g,g∈l→∀(m:Nat) (k:Int) (p:Pos),g.at_[m]? =some k→(fA g.cover (aR s g.at_))[m]? =some p→(mE s l out).2[k.toNat]? =some p
 | [],out,_,_,_=>⟨rfl,rfl,by simp⟩
 |g::l,out,he,hn,hr=>by
  rw[List.flatMap_cons] at hn hr
  have hn':=List.nodup_append.1 hn
  have ih:=Nj (s:=s) (l:=l) (out:=gF out g.at_ (fA g.cover (aR s g.at_))) (fun q hq=>he q (by simp[hq])) hn'.2.1 (fun k hk=>by rw[yD];exact hr k (List.mem_append.2 (.inr hk)))
  rw[mE,if_pos (he g ai)]
  refine⟨ih.1,by rw[ih.2.1,yD],fun q hq m k p hk hp=> ?_⟩
  rcases List.mem_cons.1 hq with rfl|hq
  ·have hkm:=List.mem_of_getElem? hk
   rw[Ni (fun q hq=>he q (by simp[hq])) fun x hx e=> ?_]
   ·exact Nf hn'.1 (fun x hx=>hr x (List.mem_append.2 (.inl hx))) hk hp
   ·have h1:=hr x (List.mem_append.2 (.inr hx))
    have h2:=hr k (List.mem_append.2 (.inl hkm))
    have:k=x:=byOmega
    exact hn'.2.2 k hkm x hx this
  ·exact ih.2.2 q hq m k p hk hp
end Go.Proofs.YtlikpcpllahalaaGreat.V
