/- Parts of the proof. -/
import Derived.Test.YtlikpcpllahalaaGreatG25
import Derived.Test.YtlikpcpllahalaaGreatG26
import Derived.Test.YtlikpcpllahalaaGreatG21
import Derived.Test.YtlikpcpllahalaaGreatG20
import Derived.Test.YtlikpcpllahalaaGreatG13
import Derived.Test.YtlikpcpllahalaaGreatG14
set_option maxHeartbeats 16000000
set_option linter.unusedSimpArgs false
set_option linter.unusedVariables false
namespace Go.Proofs.YtlikpcpllahalaaGreat.V
open Go.RowKit
set_option maxRecDepth 100000
section
attribute [local go_sem] Option.toList_some Option.toList_none
theorem Uo {h:History} {x:Int} (hx:x∈iR h):placeOf h x:=by
 have:=uP (fO.1 hx)
 exact⟨by omega,by omega⟩
end
def il (h:History):List Sl:=mY [] h.terms.from_ (rT h.terms) (nC h (iR h)) h.terms.to_
theorem Uq (h:History) (hl:h.changes.length≤50000) (hc:h.terms.covers.length≤100000) (hcc:∀c,c∈h.changes→c.covers.length≤100000) (hn:il h≠ []):aC Tryz.prog 147 [] [.agg h.flat] (.osl 0 9 0 (il h).length) [(0,some ⟨200,aa Sl.flat (il h)⟩)]:=
 Uk h _ (J9 h hl) (fun x hx=>by have:=Uo hx;unfold placeOf at this;omega) (by rw[xS];exact hl) hc hcc _ rfl hn
section
section
variable {α:Type} {lt:α→α→Bool}
theorem Ki {x:α}:∀(P:List α),(∀h,h∈P→lt x h=false)→dV lt x P=x::P
 | [],_=>rfl
 |p::P,h=>by rw[dV,h p ai,if_neg ai]
theorem Ur (h:SW lt) (S:List α):(ig lt S).Pairwise fun a b=>lt a b=false:=by
 have:=jR h S
 unfold aG Srt at this
 rwa [List.pairwise_reverse] at this
theorem Kj (h:SW lt) (p:α→Bool) (x:α):∀(R:List α),R.Pairwise (fun a b=>lt a b=false)→(dV lt x R).filter p=if p x=true then dV lt x (R.filter p) else R.filter p
 | [],_=>by
   cases hp:p x<;>simp[dV,hp]
 |q::R,hR=>by
  rw[List.pairwise_cons] at hR
  have ih:=Kj h p x R hR.2
  rw[dV]
  cases hl:lt x q
  ·rw[if_neg ai]
   cases hp:p x
   ·simp[hp]
   ·rw[if_pos rfl,List.filter_cons_of_pos hp]
    refine(Ki _ fun y hy=> ?_).symm
    have hy:=List.mem_filter.1 hy
    rcases List.mem_cons.1 hy.1 with rfl|hy1
    ·exact hl
    ·exact h.ntr y q x (hR.1 y hy1) hl
  ·rw[if_pos rfl]
   cases hq:p q
   ·rw[List.filter_cons_of_neg (by simp[hq]),List.filter_cons_of_neg (by simp[hq])]
    exact ih
   ·rw[List.filter_cons_of_pos hq,List.filter_cons_of_pos hq,ih]
    cases hp:p x
    ·simp
    ·simp only[if_true]
     rw[dV,hl,if_pos rfl]
theorem Kk (h:SW lt) (p:α→Bool) (S:List α):(aG lt S).filter p=aG lt (S.filter p):=by
 have key:∀n (S:List α),S.length=n→(ig lt S).filter p=ig lt (S.filter p):=by
  intro n
  induction n with
  |zero=>intro S hS;obtain rfl:=List.eq_nil_of_length_eq_zero hS;rfl
  |succ n ih=>
   intro S hS
   rcases List.eq_nil_or_concat S with rfl|⟨S,x,rfl⟩
   ·rfl
   ·rw[List.concat_eq_append] at *
    have hS':S.length=n:=by simp at hS;exact hS
    rw[qh,Kj h p x _ (Ur h S),ih S hS',List.filter_append]
    cases hp:p x
    ·simp[hp]
    ·simp only[if_true,List.filter_cons_of_pos hp,List.filter_nil]
     rw[qh]
 unfold aG
 rw[List.filter_reverse,key _ S rfl]
theorem Kl {β:Type} {lt':β→β→Bool} {f:α→β} {x:α}:∀(R:List α),(∀y,y∈R→lt x y=lt' (f x) (f y))→(dV lt x R).map f=dV lt' (f x) (R.map f)
 | [],_=>rfl
 |r::R,h=>by
  rw[dV,List.map_cons,dV,←h r ai]
  split
  ·rw[List.map_cons,Kl R fun y hy=>h y (by simp[hy])]
  ·simp
theorem Km {β:Type} {lt':β→β→Bool} {f:α→β} (S:List α) (h:∀x y,x∈S→y∈S→lt x y=lt' (f x) (f y)):(ig lt S).map f=ig lt' (S.map f):=by
 rcases List.eq_nil_or_concat S with rfl|⟨S,x,rfl⟩
 ·rfl
 ·rw[List.concat_eq_append] at h ⊢
  rw[qh,List.map_append,List.map_cons,List.map_nil,qh,←Km S fun x y hx hy=>h x y (by simp[hx]) (by simp[hy])]
  refine Kl _ fun y hy=>h x y ai ?_
  have:y∈S:=by
   have:=(fO (lt:=lt) (S:=S) (y:=y)).1 (by unfold aG;simpa using hy)
   exact this
  simp[this]
termination_by S.length
decreasing_by simp_all
theorem Kn {β:Type} {lt':β→β→Bool} {f:α→β} (S:List α) (h:∀x y,x∈S→y∈S→lt x y=lt' (f x) (f y)):(aG lt S).map f=aG lt' (S.map f):=by
 unfold aG
 rw[List.map_reverse,Km S h]
end
def jT (c d:Change):Bool:=decide (c.day<d.day)
theorem Ko:SW jT:=by constructor<;>simp only[jT,decide_eq_true_eq,decide_eq_false_iff_not]<;>intros<;>omega
theorem Us (h:History):(iR h).map (fun x=>h.changes[x.toNat]?)=(aG jT h.changes).map some:=by
 have e1:(aG jT h.changes).map some=aG (fun a b:Option Change=>match a,b with|some c,some d=>jT c d|_,_=>false) (h.changes.map some):=Kn _ fun x y _ _=>rfl
 rw[e1,iR]
 have e2:h.changes.map some=(gN 0 h.changes.length).map (fun x=>h.changes[x.toNat]?):=by
  apply List.ext_getElem?
  intro i
  by_cases hi:i<h.changes.length
  ·simp[gN,hi]
  ·simp[gN,hi]
 rw[e2]
 refine Kn _ fun x y hx hy=> ?_
 have hx:=uP hx
 have hy:=uP hy
 obtain⟨kx,cx,ex,ex1,ex2⟩:=Ka (h:=h) (x:=x) ⟨by omega,by omega⟩
 obtain⟨ky,cy,ey,ey1,ey2⟩:=Ka (h:=h) (x:=y) ⟨by omega,by omega⟩
 subst ex;subst ey
 simp only[aP,jT,ex2,ey2,Int.toNat_natCast,ex1,ey1]
end
section
attribute [local go_sem] Option.toList_some Option.toList_none
abbrev xV (l:List Band):AV:= .sl false 2 (l.map Band.flat)
def xW (last:Int) (b:Band):Bool:= !(decide (b.upto≤last))&& !(decide (200<b.upto))&& !(decide (b.bp<0))&& !(decide (100000<b.bp))
def l6 (last:Int):List Band→Bool
 | []=>true
 |b::l=>xW last b&&l6 b.upto l
def oJ (last:Int):List Band→Int
 | []=>last
 |b::l=>oJ b.upto l
theorem Ut (a:Int) (l:List Band) (c:Band):oJ a (l++[c])=c.upto:=by
 induction l generalizing a with
 |nil=>rfl
 |cons d l ih=>exact ih d.upto
theorem Kq {a:Int} {l:List Band} {i:Nat} (h:i<l.length):oJ a (l.take (i+1))=l[i].upto:=by
 rw[List.take_succ_eq_append_getElem h,Ut]
def uQ (l:List Band):Bool:=l6 (-1) l&&decide ((l.length:Int)≤100)
theorem Uu {l:List Band} {i:Nat} (hi:i<l.length):l6 (oJ (-1) (l.take i)) (l.drop i)=(xW (oJ (-1) (l.take i)) l[i]&&l6 (oJ (-1) (l.take (i+1))) (l.drop (i+1))):=by
 rw[List.drop_eq_getElem_cons hi,l6,Kq hi]
theorem Uv (l:List Band):Fun Tryz.prog 241 [xV l] (bool (uQ l)):=by
 refine af Tryz.func241 fun cx hN hR hF hL=> ?_
 simp at hL
 have hl:=hL.1
 simp[maxLen] at hl
 refine' run tt (l1 ?_)
 refine aX (σ:={i:Nat // i≤l.length∧l6 (-1) l=l6 (oJ (-1) (l.take i)) (l.drop i)}) (fun s=>⟨[(8,int s.1),(7,int l.length),(6,xV l),(3,int (oJ (-1) (l.take s.1))),(2,bool false),(0,xV l)],[],3000⟩) (fun s=>l.length-s.1) id ⟨0,by omega,rfl⟩ ?_ ?_
 ·simp only[go_sem,↓reduceIte,hF]
  simp[oJ]
 ·rintro⟨i,h1,h2⟩
  by_cases hi:i<l.length
  ·have e1:l[i]? =some l[i]:=List.getElem?_eq_getElem hi
   have e2:=wS i
   have hn:=Uu hi
   refine' run (I e1 e2) (lv (fun hq=>fun hq=>lf ?_) (lv (fun hq=>fun hq=>lf ?_) tt))
   ·rw[uQ,h2,hn]
    simp only[xW]
    revert hq
    simp
    grind
   ·refine⟨⟨i+1,by omega,?_⟩,id,?_,mS⟩
    ·rw[h2,hn]
     simp only[xW]
     revert hq
     simp
     grind
    ·simp only[go_sem,↓reduceIte,hF,Kq hi]
  ·refine' run tt (l3 fun hq=> ?_)
   rw[List.drop_eq_nil_of_le byOmega] at h2
   simp[uQ,h2,l6]
def jU (age:Int):List Band→Int
 | []=>10000
 |b::l=>if b.upto<age then jU age l else b.bp
attribute [local go_sem] Int.toNat_one Int.toNat_zero List.drop_succ_cons List.drop_zero List.getElem?_cons_zero Option.getD_some in
theorem Uw (l:List Band) (age:Int):Fun Tryz.prog 224 [xV l,int age] (int (jU age l)):=by
 refine lq Tryz.func224 rfl (Nat.le_of_ble_eq_true rfl) fun cx hN hR hF hL=> ?_;apply dS;(case hA=>(simp only[go_sem,↓reduceIte];rfl))
 (refine aD ?_)
 refine' run tt (l1 ?_)
 refine IP 0 (fun s:{i:Nat // i≤l.length∧jU age l=jU age (l.drop i)}=>⟨[(4,int 0),(0,xV (l.drop s.1)),(1,int age)],[],1000⟩) (fun s=>l.length-s.1) rfl ?_ ?_
 ·refine aL ?_
  rcases l with _|⟨b,l⟩
  ·refine' run tt (l3 fun hq=> ?_)
   (repeat(first|refine Da ?_|refine Db ?_|refine Dc ?_|refine Dd ?_|refine Df ?_|refine De ?_))
   (try focus ((try(revert K;refine bK ?_));refine' run tt ?_;(repeat' first|exact tt|apply lv|(apply oK;intro K hK)|intro hq);all_goals apply lf))
   rfl
  ·refine' run tt (lv (fun hq=>fun hq=>lf ?_) (lv (fun hq=>fun hq=>lf ?_) tt))
   ·(repeat(first|refine Da ?_|refine Db ?_|refine Dc ?_|refine Dd ?_|refine Df ?_|refine De ?_))
    refine⟨⟨1,by simp,?_⟩,id,?_⟩
    ·simp[jU,hq]
    ·simp only[go_sem,↓reduceIte,hF]
   ·(repeat(first|refine Da ?_|refine Db ?_|refine Dc ?_|refine Dd ?_|refine Df ?_|refine De ?_))
    (try focus ((try(revert K;refine bK ?_));refine' run tt ?_;(repeat' first|exact tt|apply lv|(apply oK;intro K hK)|intro hq);all_goals apply lf))
    rw[jU,if_neg byOmega]
 ·rintro⟨i,h1,h2⟩
  refine aL ?_
  simp only at h2 ⊢
  rw[h2]
  by_cases hi:i<l.length
  ·rw[List.drop_eq_getElem_cons hi] at h2 ⊢
   refine' run tt (lv (fun hq=>fun hq=>lf ?_) (lv (fun hq=>fun hq=>lf ?_) tt))
   ·(repeat(first|refine Da ?_|refine Db ?_|refine Dc ?_|refine Dd ?_|refine Df ?_|refine De ?_))
    refine⟨⟨i+1,by omega,?_⟩,id,?_,mS⟩
    ·rw[jU,if_pos hq]
    ·simp only[go_sem,↓reduceIte,hF]
   ·(repeat(first|refine Da ?_|refine Db ?_|refine Dc ?_|refine Dd ?_|refine Df ?_|refine De ?_))
    (try focus ((try(revert K;refine bK ?_));refine' run tt ?_;(repeat' first|exact tt|apply lv|(apply oK;intro K hK)|intro hq);all_goals apply lf))
    rw[jU,if_neg byOmega]
  ·rw[List.drop_eq_nil_of_le byOmega] at h2 ⊢
   refine' run tt (l3 fun hq=> ?_)
   (repeat(first|refine Da ?_|refine Db ?_|refine Dc ?_|refine Dd ?_|refine Df ?_|refine De ?_))
   (try focus ((try(revert K;refine bK ?_));refine' run tt ?_;(repeat' first|exact tt|apply lv|(apply oK;intro K hK)|intro hq);all_goals apply lf))
   rfl
def gq (x:Int):Bool:= !(decide (x<0))&& !(decide (100000<x))
def xX (l:List Int):Int:=if l.all gq=true then -1 else((l.takeWhile gq).length:Int)
theorem Ux {l:List Int} {i:Nat} (hi:i<l.length) (h:(l.take i).all gq=true) (hb:gq l[i]=false):xX l=i:=by
 have e:l=l.take i++l[i]::l.drop (i+1):=by simp
 have h2:¬l.all gq=true:=by rw[e,List.all_append,List.all_cons,hb];simp
 have h3:(l.takeWhile gq).length=i:=by
  rw[e,List.takeWhile_append_of_pos (fun x hx=>List.all_eq_true.1 h x hx),List.takeWhile_cons_of_neg (by rw[hb];simp),List.append_nil,List.length_take]
  omega
 rw[xX,if_neg h2,h3]
theorem Uy (x:Int):Fun Tryz.prog 249 [int x] (bool (!gq x)):=by
 refine af Tryz.func249 fun cx hN hR hF hL=> ?_
 refine' run tt (l1 ?_)
 all_goals simp[gq]
theorem Uz (l:List Int):Fun Tryz.prog 252 [ints l,.v (.func (.func 249) #[] #[])] (int (xX l)):=by
 refine af Tryz.func252 fun cx hN hR hF hL=> ?_
 simp at hL
 have hl:=hL.1
 simp[maxLen] at hl
 refine' run tt (l1 ?_)
 refine aX (σ:={i:Nat // i≤l.length∧(l.take i).all gq=true}) (fun s=>⟨[(8,int s.1),(7,int l.length),(4,int 0),(0,ints l),(1,.v (.func (.func 249) #[] #[]))],[],2000⟩) (fun s=>l.length-s.1) id ⟨0,by omega,rfl⟩ ?_ ?_
 ·simp only[go_sem,↓reduceIte,hF]
  rfl
 ·rintro⟨i,h1,h2⟩
  by_cases hi:i<l.length
  ·have e1:l[i]? =some l[i]:=List.getElem?_eq_getElem hi
   have e2:=wS i
   refine' aj (I e1 e2) Uy (lv (fun hq=>fun hq=>lf ?_) (lv (fun hq=>fun hq=>lf ?_) tt))
   ·rw[Ux hi h2 (by simpa using hq)]
   ·refine⟨⟨i+1,by omega,?_⟩,id,?_,mS⟩
    ·rw[List.take_succ_eq_append_getElem hi,List.all_append,h2]
     simpa using hq
    ·simp only[go_sem,↓reduceIte,hF]
  ·refine' run tt (l3 fun hq=> ?_)
   rw[List.take_of_length_le byOmega] at h2
   rw[xX,if_pos h2]
theorem UA (l:List Int):Fun Tryz.prog 248 [ints l,.v (.func (.func 249) #[] #[])] (bool (!l.all gq)):=by
 refine af Tryz.func248 fun cx hN hR hF hL=> ?_
 refine' aj tt Uz (l1 ?_)
 unfold xX
 split<;>simp_all
theorem Ev (l:List Int):Fun Tryz.prog 240 [ints l] (bool (l.all gq)):=by
 refine af Tryz.func240 fun cx hN hR hF hL=> ?_
 exact aj tt UA tt
 all_goals simp
def Version.okB (v:Version):Bool:=(!(decide (v.from_<1)||decide (292194<v.from_)||decide (v.min<0)||decide (1000000000000000<v.min)))&&(!(decide (100<(v.age.length:Int))||decide ((v.zone.length:Int)<1)||decide (100<(v.zone.length:Int))|| !decide ((v.peril.length:Int)=8)))&&([v.b0,v.b1,v.b2,v.b3].all gq&&v.zone.all gq&&v.peril.all gq&&uQ v.age)
theorem Ew {x:Int}:gq x=true↔0≤x∧x≤100000:=by unfold gq;simp
theorem Ex {v:Version}:v.okB=true↔(1≤v.from_∧v.from_≤292194∧0≤v.min∧v.min≤1000000000000000)∧(v.age.length≤100∧1≤v.zone.length∧v.zone.length≤100∧v.peril.length=8)∧
 ((0≤v.b0∧v.b0≤100000)∧(0≤v.b1∧v.b1≤100000)∧(0≤v.b2∧v.b2≤100000)∧0≤v.b3∧v.b3≤100000)∧v.zone.all gq=true∧v.peril.all gq=true∧uQ v.age=true:=by
 unfold Version.okB
 simp only[Bool.and_eq_true,List.all_cons,List.all_nil,Ew,Bool.not_eq_true',Bool.or_eq_false_iff,decide_eq_false_iff_not,Bool.not_eq_false',decide_eq_true_eq]
 grind
attribute [local go_sem] List.drop_succ_cons List.drop_zero List.take_succ_cons List.take_zero in
theorem Ey (v:Version):Fun Tryz.prog 223 [.agg v.flat] (bool v.okB):=by
 refine lq Tryz.func223 rfl (Nat.le_of_ble_eq_true rfl) fun cx hN hR hF hL=> ?_;apply dS;(case hA=>(simp only[go_sem,↓reduceIte];rfl))
 (refine aD ?_)
 refine' run tt (l1 ?_)
 refine rP [0] [(1,.pp v.flat),(2,bool false)] [] rfl ?_ ?_ ?_
 ·simp only[go_sem,↓reduceIte,hF]
 ·simp[go_sem,aH]
 ·refine aL ?_
  refine' aj tt (I (Ev [v.b0,v.b1,v.b2,v.b3]) (I (Ev v.zone) (I (Ev v.peril) (Uv v.age)))) (lv (fun hq=>lf ?_) (lv (fun hq=>fun hq=>lf ?_) (lv (fun hq=>fun hq=>lf ?_) tt)))
  ·unfold Version.okB
   grind
  ·unfold Version.okB
   grind
  ·unfold Version.okB
   rename_i hr
   revert hq hr
   simp
   grind
end
end Go.Proofs.YtlikpcpllahalaaGreat.V
