/- Parts of the proof. -/
import Derived.Test.YtlikpcpllahalaaGreatG30
set_option linter.unusedSimpArgs false
set_option linter.unusedVariables false
namespace Go.Proofs.YtlikpcpllahalaaGreat.V
open Go.RowKit
theorem Bp {P:Program} {cx:Cx} {c:Code} {Q:Exit→LS→Prop} {env:Env} {box box':ay} {nx:Nat} (f:Nat→Option Nat)
 (hb:∀b,ah box' b=match f b with|some n=>(ah box b).map (fun x=>⟨x.t,x.cs.take n⟩)|none=>ah box b) (h:aY P cx c Q ⟨env,box',nx⟩):aY P cx c Q ⟨env,box,nx⟩:=by
 intro ι a w hs
 refine h ι a w ?_
 have hd:∀b x,ah box' b=some x→∃y,ah box b=some y∧x.t=y.t∧∃n,x.cs=y.cs.take n:=fun b x hx=>by
  rw[hb] at hx
  cases hf:f b with
  |none=>rw[hf] at hx;exact⟨x,hx,rfl,x.cs.length,(List.take_length).symm⟩
  |some n=>
   rw[hf] at hx
   simp only[Option.map_eq_some_iff] at hx
   obtain⟨y,h1,rfl⟩:=hx
   exact⟨y,h1,rfl,n,rfl⟩
 have hd':∀b y,ah box b=some y→∃x,ah box' b=some x:=fun b y hy=>by
  rw[hb]
  cases hf:f b with
  |none=>exact⟨y,hy⟩
  |some n=>exact⟨_,by rw[hy];rfl⟩
 have hM:Mof cx ι (ah box')=Mof cx ι (ah box):=by
  funext g
  apply propext
  constructor
  ·rintro(h|⟨b,x,h1,h2⟩)
   ·exact .inl h
   ·obtain⟨y,hy,-⟩:=hd b x h1;exact .inr ⟨b,y,hy,h2⟩
  ·rintro(h|⟨b,y,h1,h2⟩)
   ·exact .inl h
   ·obtain⟨x,hx⟩:=hd' b y h1;exact .inr ⟨b,x,hx,h2⟩
 obtain⟨⟨w1,w2,w3,w4,w5,w6,w7⟩,h2,h3,h4⟩:=hs
 refine⟨⟨w1,w2,w3,w4,?_,?_,?_⟩,h2,h3,?_⟩
 ·intro b x hx
  obtain⟨y,hy,-⟩:=hd b x hx
  exact w5 b y hy
 ·intro b x hx
  obtain⟨y,hy,ht,n,hn⟩:=hd b x hx
  rcases w6 b y hy with⟨h1,h2⟩|⟨g,h1,h2,h3,c,h4,h5,h6⟩
  ·exact .inl ⟨by rw[hn,h1,List.take_nil],h2⟩
  ·refine .inr ⟨g,h1,h2,h3,c,by rw[h4,ht],by rw[hn,List.length_take];omega,fun j v z hv hz=> ?_⟩
   rw[hn,List.getElem?_take] at hz
   split at hz
   ·have:=h6 j v z hv hz
    rw[show(LS.toAS ⟨env,box',nx⟩).box=ah box' from rfl,hM]
    exact this
   ·cases hz
 ·intro b b' x x' g h1 h2 h3 h4
  obtain⟨y,hy,-⟩:=hd b x h1
  obtain⟨y',hy',-⟩:=hd b' x' h2
  exact w7 b b' y y' g hy hy' h3 h4
 ·intro t
  have:=h4 t
  rw[show(LS.toAS ⟨env,box',nx⟩).box=ah box' from rfl,hM]
  exact this
end Go.Proofs.YtlikpcpllahalaaGreat.V
