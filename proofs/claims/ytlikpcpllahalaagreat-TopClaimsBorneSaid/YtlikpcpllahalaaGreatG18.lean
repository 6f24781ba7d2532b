/- Parts of the proof. -/
import Derived.Test.YtlikpcpllahalaaGreatG1
set_option linter.unusedSimpArgs false
set_option linter.unusedVariables false
namespace Go.Proofs.YtlikpcpllahalaaGreat.V
abbrev dJ:=List (Int×Int)
def oz (v:Int):Bool:=decide (-4000000000000000000≤v)&&decide (v≤4000000000000000000)
theorem SK {v:Int}:oz v=true↔ -4000000000000000000≤v∧v≤4000000000000000000:=by simp[oz]
def gM:Int→Int→dJ→Bool
 |_,_,[]=>true
 |d0,v0,p::l=>decide (d0<p.1)&&decide (p.1≤292194)&&decide (p.2≠v0)&&oz p.2&&gM p.1 p.2 l
def bH:Int→dJ→Int→Int
 |a,[],_=>a
 |a,p::l,x=>bH (if p.1≤x then p.2 else a) l x
theorem Jl {d0 v0:Int} {p:Int×Int} {l:dJ}:gM d0 v0 (p::l)=true↔d0<p.1∧p.1≤292194∧p.2≠v0∧oz p.2=true∧gM p.1 p.2 l=true:=by
 simp[gM,and_assoc]
theorem D7:∀ {l:dJ} {d0 v0:Int},gM d0 v0 l=true→∀p,p∈l→d0<p.1∧p.1≤292194∧oz p.2=true
 | [],_,_,_,p,hp=>by simp at hp
 |q::l,d0,v0,h,p,hp=>by
  obtain⟨h1,h2,h3,h4,h5⟩:=Jl.1 h
  rcases List.mem_cons.1 hp with rfl|hp
  ·exact⟨h1,h2,h4⟩
  ·have:=D7 h5 p hp
   exact⟨by omega,this.2⟩
theorem rR:∀ {l:dJ} {d0 v0:Int},gM d0 v0 l=true→l.Pairwise fun p q=>p.1<q.1
 | [],_,_,_=> .nil
 |q::l,d0,v0,h=>by
  obtain⟨h1,h2,h3,h4,h5⟩:=Jl.1 h
  exact .cons (fun p hp=>(D7 h5 p hp).1) (rR h5)
theorem zS:∀(l:dJ) (a x:Int),(∀p,p∈l→x<p.1)→bH a l x=a
 | [],_,_,_=>rfl
 |p::l,a,x,h=>by
  have:=h p ai
  rw[bH,if_neg byOmega]
  exact zS l a x fun q hq=>h q (by simp[hq])
theorem Jm:∀(l:dJ) (a x y:Int),x≤y→(∀p,p∈l→¬(x<p.1∧p.1≤y))→bH a l x=bH a l y
 | [],_,_,_,_,_=>rfl
 |p::l,a,x,y,hxy,h=>by
  have h0:=h p ai
  rw[bH,bH,Jm l _ x y hxy fun q hq=>h q (by simp[hq])]
  congr 1
  by_cases h1:p.1≤x
  ·rw[if_pos h1,if_pos byOmega]
  ·rw[if_neg h1,if_neg byOmega]
theorem zT:∀ {l:dJ} {a:Int},(l.Pairwise fun p q=>p.1<q.1)→∀p,p∈l→bH a l p.1=p.2
 | [],_,_,p,hp=>by simp at hp
 |q::l,a,h,p,hp=>by
  rw[List.pairwise_cons] at h
  rcases List.mem_cons.1 hp with rfl|hp
  ·rw[bH,if_pos (Int.le_refl _)]
   exact zS l _ _ h.1
  ·rw[bH,zT h.2 p hp]
theorem Jn:∀(l:dJ) (a x:Int),oz a=true→(∀p,p∈l→oz p.2=true)→oz (bH a l x)=true
 | [],_,_,h,_=>h
 |p::l,a,x,h,hl=>by
  rw[bH]
  refine Jn l _ x ?_ fun q hq=>hl q (by simp[hq])
  split
  ·exact hl p ai
  ·exact h
end Go.Proofs.YtlikpcpllahalaaGreat.V
namespace Go.Proofs.YtlikpcpllahalaaGreat.V
abbrev LtP (l:dJ):Prop:=l.Pairwise fun p q=>p.1<q.1
theorem LtP.tail {p:Int×Int} {l:dJ} (h:LtP (p::l)):LtP l:=(List.pairwise_cons.1 h).2
theorem LtP.val {p:Int×Int} {l:dJ} (h:LtP (p::l)) {a x:Int} (hx:x≤p.1):bH a l x=a:=zS l a x fun q hq=>by have:=(List.pairwise_cons.1 h).1 q hq;omega
def neg (f:dJ):dJ:=f.map fun p=>(p.1,-p.2)
def lC (b:Int):Int→Int→dJ→List (Int×Int×Int)
 |a,v,[]=>[(a,b,v)]
 |a,v,p::l=>if a<p.1∧p.1<b then(a,p.1,v)::lC b p.1 p.2 l else lC b a v l
def uB (h:Int→Int) (b:Int):Int→List (Int×Int×Int)→Prop
 |a,[]=>a=b
 |a,q::l=>q.1=a∧a<q.2.1∧q.2.1≤b∧(∀x,a≤x→x<q.2.1→h x=q.2.2)∧uB h b q.2.1 l
theorem D8 {h:Int→Int} {b:Int}:∀(l:dJ) (a v:Int),a<b→LtP l→(∀p,p∈l→a<p.1)→(∀x,a≤x→x<b→h x=bH v l x)→uB h b a (lC b a v l)
 | [],a,v,hab,_,_,hh=>⟨rfl,hab,Int.le_refl _,hh,rfl⟩
 |p::l,a,v,hab,hl,hg,hh=>by
  have h1:=hg p ai
  rw[lC]
  by_cases h2:p.1<b
  ·rw[if_pos ⟨h1,h2⟩]
   refine⟨rfl,h1,by show p.1≤b;omega,fun x hx hxp=> ?_,D8 l p.1 p.2 h2 hl.tail (fun q hq=>(List.pairwise_cons.1 hl).1 q hq) fun x hx hxb=> ?_⟩
   ·have hxp:x<p.1:=hxp
    rw[hh x hx byOmega,bH,if_neg byOmega,hl.val byOmega]
   ·rw[hh x byOmega hxb,bH,if_pos hx]
  ·rw[if_neg byOmega]
   refine D8 l a v hab hl.tail (fun q hq=>hg q (by simp[hq])) fun x hx hxb=> ?_
   rw[hh x hx hxb,bH,if_neg byOmega]
theorem Jo {b a v:Int}:∀(l:dJ),LtP l→lC b a v l=lC b a v (l.filter fun p=>decide (a<p.1))
 | [],_=>rfl
 |p::l,hl=>by
  by_cases h:a<p.1
  ·have:(p::l).filter (fun p=>decide (a<p.1))=p::l:=by
    rw[List.filter_eq_self]
    intro q hq
    rcases List.mem_cons.1 hq with rfl|hq
    ·simpa using h
    ·have:=(List.pairwise_cons.1 hl).1 q hq
     simp;omega
   rw[this]
  ·rw[List.filter_cons_of_neg (by simpa using h),←Jo l hl.tail,lC,if_neg byOmega]
theorem Jp (a:Int):∀(l:dJ) (v x:Int),LtP l→a≤x→bH v l x=bH (bH v l a) (l.filter fun p=>decide (a<p.1)) x
 | [],_,_,_,_=>rfl
 |p::l,v,x,hl,hx=>by
  by_cases h:a<p.1
  ·have:(p::l).filter (fun p=>decide (a<p.1))=p::l:=by
    rw[List.filter_eq_self]
    intro q hq
    rcases List.mem_cons.1 hq with rfl|hq
    ·simpa using h
    ·have:=(List.pairwise_cons.1 hl).1 q hq
     simp;omega
   rw[this]
   congr 1
   rw[bH,if_neg byOmega,hl.val byOmega]
  ·rw[List.filter_cons_of_neg (by simpa using h),bH,Jp a l _ x hl.tail hx,bH,if_pos (show p.1≤x by omega),if_pos (show p.1≤a by omega)]
def pieces (f:dJ) (a b:Int):List (Int×Int×Int):=lC b a (bH 0 f a) f
theorem Jq {f:dJ} {a b:Int} (hf:LtP f) (hab:a<b):uB (bH 0 f) b a (pieces f a b):=by
 unfold pieces
 rw[Jo f hf]
 refine D8 _ a _ hab (hf.filter _) (fun p hp=>by simpa using(List.mem_filter.1 hp).2) fun x hx _=>Jp a f 0 x hf hx
def bT (v:Int):Int:=if v<0 then -v else v
def mV:Int→Int→List (Int×Int×Int)→Option Int
 |s,_,[]=>some s
 |s,t,q::l=>if(4000000000000000000-t)/(q.2.1-q.1)<bT q.2.2 then none else mV (s+(q.2.1-q.1)*q.2.2) (t+(q.2.1-q.1)*bT q.2.2) l
def tot (h:Int→Int) (a:Int):Nat→Int
 |0=>0
 |n+1=>tot h a n+h (a+n)
theorem D9 (h:Int→Int) (a:Int) (n:Nat):∀m:Nat,tot h a (n+m)=tot h a n+tot h (a+n) m
 |0=>by simp[tot]
 |m+1=>by
  rw[←Nat.add_assoc,tot,D9 h a n m,tot]
  rw[show a+((n+m:Nat):Int)=a+n+m by omega]
  omega
theorem Ea (h:Int→Int) (a v:Int):∀(n:Nat),(∀i:Nat,i<n→h (a+i)=v)→tot h a n=n*v
 |0,_=>by simp[tot]
 |n+1,hv=>by
  rw[tot,Ea h a v n fun i hi=>hv i byOmega,hv n byOmega,Int.natCast_add,Int.add_mul];simp
theorem Eb {h:Int→Int} {a:Int} (h0:∀x,0≤h x):∀n,0≤tot h a n
 |0=>Int.le_refl _
 |n+1=>by rw[tot];have:=Eb (a:=a) h0 n;have:=h0 (a+n);omega
theorem Jr {h:Int→Int} {a:Int}:∀n,- tot (fun x=>bT (h x)) a n≤tot h a n∧tot h a n≤tot (fun x=>bT (h x)) a n
 |0=>by simp[tot]
 |n+1=>by
  rw[tot,tot]
  have:=Jr (h:=h) (a:=a) n
  have h1: - bT (h (a+n))≤h (a+n)∧h (a+n)≤bT (h (a+n)):=by unfold bT;split<;>omega
  omega
theorem Js {h:Int→Int} {b:Int}:∀(l:List (Int×Int×Int)) (a s t:Int),uB h b a l→0≤t→t≤4000000000000000000→
 mV s t l=if t+tot (fun x=>bT (h x)) a (b-a).toNat≤4000000000000000000 then some (s+tot h a (b-a).toNat) else none
 | [],a,s,t,hc,h0,h1=>by
   have:a=b:=hc
   subst this
   simp[mV,tot,h1]
 |q::l,a,s,t,hc,h0,h1=>by
  obtain⟨c1,c2,c3,c4,c5⟩:=hc
  subst c1
  have hn:(b-q.1).toNat=(q.2.1-q.1).toNat+(b-q.2.1).toNat:=byOmega
  have e1:tot h q.1 (q.2.1-q.1).toNat=(q.2.1-q.1)*q.2.2:=by
   rw[Ea h q.1 q.2.2 _ fun i hi=>c4 _ byOmega byOmega]
   rw[Int.toNat_of_nonneg byOmega]
  have e2:tot (fun x=>bT (h x)) q.1 (q.2.1-q.1).toNat=(q.2.1-q.1)*bT q.2.2:=by
   rw[Ea (fun x=>bT (h x)) q.1 (bT q.2.2) _ fun i hi=>by show bT (h _)=_;rw[c4 _ byOmega byOmega]]
   rw[Int.toNat_of_nonneg byOmega]
  have hq:q.1+((q.2.1-q.1).toNat:Int)=q.2.1:=byOmega
  rw[hn,D9,D9,e1,e2,hq,mV]
  have hpos:(0:Int)<q.2.1-q.1:=byOmega
  have hd:(4000000000000000000-t)/(q.2.1-q.1)<bT q.2.2↔4000000000000000000-t<(q.2.1-q.1)*bT q.2.2:=by
   rw[←Int.not_le,←Int.not_le,Int.le_ediv_iff_mul_le hpos,Int.mul_comm]
  have hab:0≤bT q.2.2:=by unfold bT;split<;>omega
  have hm:0≤(q.2.1-q.1)*bT q.2.2:=Int.mul_nonneg byOmega hab
  have hr:0≤tot (fun x=>bT (h x)) q.2.1 (b-q.2.1).toNat:=Eb (fun x=>by show 0≤bT _;unfold bT;split<;>omega) _
  by_cases hg:4000000000000000000-t<(q.2.1-q.1)*bT q.2.2
  ·rw[if_pos (hd.2 hg),if_neg byOmega]
  ·rw[if_neg (fun hh=>hg (hd.1 hh)),Js l q.2.1 _ _ c5 byOmega byOmega,Int.add_assoc,Int.add_assoc]
def oC (f:dJ) (a b:Int):Option Int:=mV 0 0 (pieces f a b)
def zU (f:dJ) (a b:Int):Int:=tot (fun x=>bT (bH 0 f x)) a (b-a).toNat
def xE (f:dJ) (a b:Int):Int:=tot (bH 0 f) a (b-a).toNat
theorem SL {f:dJ} {a b:Int} (hf:LtP f) (hab:a<b):oC f a b=if zU f a b≤4000000000000000000 then some (xE f a b) else none:=by
 unfold oC zU xE
 rw[Js _ a 0 0 (Jq hf hab) byOmega byOmega,Int.zero_add,Int.zero_add]
theorem SN {f:dJ} {a b:Int}: - zU f a b≤xE f a b∧xE f a b≤zU f a b:=Jr _
end Go.Proofs.YtlikpcpllahalaaGreat.V
