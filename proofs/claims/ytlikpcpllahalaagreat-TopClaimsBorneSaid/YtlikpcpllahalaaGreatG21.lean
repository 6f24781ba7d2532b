/- Parts of the proof. -/
import Derived.Test.YtlikpcpllahalaaGreatG20
import Derived.Defers
import Derived.Test.YtlikpcpllahalaaGreatG14
set_option maxHeartbeats 16000000
set_option linter.unusedSimpArgs false
set_option linter.unusedVariables false
namespace Go.Proofs.YtlikpcpllahalaaGreat.V
open Go.RowKit
set_option maxRecDepth 100000
def lG (k v a z:Int):Bool:=(decide (0≤k)&&decide (k<4))&&(decide (1≤v)&&decide (v≤1000000000000000))&&decide (0≤a)&&decide (a≤200)&&decide (0≤z)&&decide (z<100)
theorem xI (k v a z:Int):Fun Tryz.prog 215 [.agg [int k,int v,int a,int z]] (bool (lG k v a z)):=by
 refine af Tryz.func215 fun cx hN hR hF hL=> ?_
 refine' run tt (l1 ?_)
 rfl
def zW (p l a d s:Int):Bool:=(decide (0≤p)&&decide (p<8))&&(decide (1≤s)&&decide (s≤10000))&&rises [0,d,IntKind.i64.wrap (l-1),IntKind.i64.wrap (a-1),999999999999999]&&decide (d<l)
def Cover.right (c:Cover):Bool:=zW c.peril c.limit c.agg c.ded c.share
theorem zX (c:Cover):Fun Tryz.prog 40 [.agg c.flat] (bool c.right):=by
 refine af Tryz.func40 fun cx hN hR hF hL=> ?_
 refine' run tt (lv (fun hq=>o4 fun K hK=> ?_) (l3 fun hq=> ?_))
 (refine d9 [3104] (JH [0,c.ded,IntKind.i64.wrap (c.limit-1),IntKind.i64.wrap (c.agg-1),999999999999999]) ?_)
 all_goals(try focus ((try(revert K;refine bK ?_));refine' run tt ?_;(repeat' first|exact tt|apply lv|(apply oK;intro K hK)|intro hq);all_goals apply lf))
 ·simp only[Cover.right,zW,hq,Bool.true_and]
 ·simp only[Cover.right,zW,hq,Bool.false_and]
def oF (last:Int):List Cover→Bool
 | []=>true
 |c::l=> !(decide (c.peril≤last)|| !c.right)&&oF c.peril l
def uL (last:Int):List Cover→Int
 | []=>last
 |c::l=>uL c.peril l
theorem Tw (a:Int) (l:List Cover) (c:Cover):uL a (l++[c])=c.peril:=by
 induction l generalizing a with
 |nil=>rfl
 |cons d l ih=>exact ih d.peril
theorem JI {a:Int} {l:List Cover} {i:Nat} (h:i<l.length):uL a (l.take (i+1))=l[i].peril:=by
 rw[List.take_succ_eq_append_getElem h,Tw]
def qa (l:List Cover):Bool:=oF (-1) l&&(decide (1≤(l.length:Int))&&decide ((l.length:Int)≤8))
theorem JJ (l:List Cover):Fun Tryz.prog 217 [dz l] (bool (qa l)):=by
 refine af Tryz.func217 fun cx hN hR hF hL=> ?_
 simp at hL
 have hl:=hL.1
 simp[maxLen] at hl
 refine' run tt (l1 ?_)
 refine aX (σ:={i:Nat // i≤l.length∧oF (-1) l=oF (uL (-1) (l.take i)) (l.drop i)}) (fun s=>⟨[(8,int s.1),(7,int l.length),(6,dz l),(3,int (uL (-1) (l.take s.1))),(2,bool false),(0,dz l)],[],3000⟩) (fun s=>l.length-s.1) id ⟨0,by omega,rfl⟩ ?_ ?_
 ·simp only[go_sem,↓reduceIte,hF]
  simp[uL]
 ·rintro⟨i,h1,h2⟩
  by_cases hi:i<l.length
  ·have e1:l[i]? =some l[i]:=List.getElem?_eq_getElem hi
   have e2:=wS i
   refine' run (I e1 e2) (lv (fun hq=>o4 fun K hK=> ?_) tt)
   (refine bR PP (zX _) ai ?_)
   (revert K;refine bK ?_;refine' run (I e1 e2) (lv (fun hq=>lf ?_) (l3 fun hq=> ?_)))
   ·rw[qa,h2,List.drop_eq_getElem_cons hi,oF]
    rcases hq with h|h<;>simp[h]
   ·refine⟨⟨i+1,by omega,?_⟩,id,?_,mS⟩
    ·rw[h2,List.drop_eq_getElem_cons hi,oF,JI hi]
     simp[hq]
    ·simp only[go_sem,↓reduceIte,hF,JI hi]
  ·refine' run tt (l3 fun hq=> ?_)
   rw[List.drop_eq_nil_of_le byOmega] at h2
   simp[qa,h2,oF]
end Go.Proofs.YtlikpcpllahalaaGreat.V
namespace Go.Proofs.YtlikpcpllahalaaGreat.V
open Go.RowKit
set_option maxRecDepth 100000
def full (a b:Int):Bool:=decide (1≤a)&&decide (a<b)&&decide (b≤292195)
end Go.Proofs.YtlikpcpllahalaaGreat.V
namespace Go.Proofs.YtlikpcpllahalaaGreat.V
open Go.RowKit
set_option maxRecDepth 100000
attribute [local go_sem] Option.toList_some Option.toList_none
theorem Tx (a b:List Cover):Fun Tryz.prog 221 [dz a,dz b] (bool (decide (a=b))):=by
 refine af Tryz.func221 fun cx hN hR hF hL=> ?_
 have hl:a.length≤9223372036854775807:=by
  have:=hL
  simp[maxLen] at this
  omega
 by_cases hn:a.length=b.length
 ·refine' run hn (l3 fun hq=> ?_)
  refine aX (σ:={i:Nat // i≤a.length∧a.take i=b.take i}) (fun s=>⟨[(14,int s.1),(4,bool false),(12,dz a),(13,int a.length),(1,dz b)],[],3000⟩) (fun s=>a.length-s.1) id ⟨0,by omega,rfl⟩ ?_ ?_
  ·simp only[go_sem,↓reduceIte,hF,hn]
   rfl
  ·rintro⟨i,h1,h2⟩
   by_cases hi:i<a.length
   ·have e1:a[i]? =some a[i]:=List.getElem?_eq_getElem hi
    have hj:i<b.length:=byOmega
    have e3:b[i]? =some b[i]:=List.getElem?_eq_getElem hj
    have e2:=wS i
    refine' run (I e1 (I e2 e3)) (lv (fun hq=>fun hq=>lf ?_) (lv (fun hq=>fun hq=>lf ?_) tt))
    ·rw[Ju] at hq
     simp[Tc hi hj hq]
    ·rw[Ju] at hq
     refine⟨⟨i+1,by omega,Ta hi hj h2 hq⟩,id,?_,mS⟩
     simp only[go_sem,↓reduceIte,hF]
   ·refine' run tt (l3 fun hq=> ?_)
    simp[take_eq_all hn hi h2]
 ·refine' run hn (l3 fun hq=> ?_)
  have:¬a=b:=fun e=>hn (by rw[e])
  simp[this]
theorem JK (a b:Sl):Fun Tryz.prog 185 [.agg a.flat,.agg b.flat] (bool (decide (a.st=b.st))):=by
 refine af Tryz.func185 fun cx hN hR hF hL=> ?_
 refine' aj tt Tx (l1 ?_)
 ·rcases a with⟨_,_,⟨_,_,_,_,_,_⟩,_⟩
  rcases b with⟨_,_,⟨_,_,_,_,_,_⟩,_⟩
  rw[Bool.eq_iff_iff]
  simp
  try grind
def nk (l:List Sl) (d:Int):Option Sl:=l.find? fun s=>fM s.from_ s.to_ d
def lH:Option Sl→AV
 |some s=> .tup [.agg s.flat,bool true]
 |none=> .tup [.agg [int 0,int 0,bool false,int 0,int 0,int 0,int 0,.v (.slice none 0 0),int 0],bool false]
attribute [local go_sem] lH
theorem Ty {l:List Sl} {i:Nat} {d:Int} (hi:i<l.length) (h:fM l[i].from_ l[i].to_ d=false):nk (l.drop i) d=nk (l.drop (i+1)) d:=by
 rw[List.drop_eq_getElem_cons hi,nk,List.find?_cons,h];rfl
theorem Tz {l:List Sl} {i:Nat} {d:Int} (hi:i<l.length) (h:fM l[i].from_ l[i].to_ d=true):nk (l.drop i) d=some l[i]:=by
 rw[List.drop_eq_getElem_cons hi,nk,List.find?_cons,h]
theorem TA (l:List Sl) (f:Bool) (d:Int) (o:Option Sl) (ho:o=nk l d) (hl:l.length≤1000000):Fun Tryz.prog 84 [.sl f 9 (l.map Sl.flat),int d] (lH o):=by
 refine af Tryz.func84 fun cx hN hR hF hL=> ?_
 refine' run tt (l1 ?_)
 refine aX (σ:={i:Nat // i≤l.length∧o=nk (l.drop i) d}) (fun s=>⟨[(10,int s.1),(1,int d),(4,.ptr 0 0),(8,.sl f 9 (l.map Sl.flat)),(9,int l.length),(5,bool false)],[(0,some ⟨200,[int 0,int 0,bool false,int 0,int 0,int 0,int 0,.v (.slice none 0 0),int 0]⟩)],3000⟩) (fun s=>l.length-s.1) id ⟨0,by omega,ho⟩ ?_ ?_
 ·simp only[go_sem,↓reduceIte,hF]
  all_goals rfl
 ·rintro⟨i,h1,h2⟩
  simp only at h1 h2 ⊢
  by_cases hi:i<l.length
  ·have e1:(l.map Sl.flat)[i]? =some (l[i].flat):=by rw[List.getElem?_map,List.getElem?_eq_getElem hi];rfl
   have e2:=wS i
   have k:=rV l[i].from_ l[i].to_ d
   cases hb:fM l[i].from_ l[i].to_ d
   ·rw[hb] at k
    rw[Ty hi hb] at h2
    generalize l[i]=s at *
    refine' aj (I e1 e2) k (lv (fun hq=>fun hq=>lf ?_) tt)
    refine⟨⟨i+1,hi,h2⟩,id,?_,mS⟩
    simp only[go_sem,↓reduceIte,hF]
   ·rw[hb] at k
    rw[Tz hi hb] at h2
    subst h2
    generalize l[i]=s at *
    exact aj (I e1 e2) k tt
  ·obtain rfl:i=l.length:=byOmega
   rw[List.drop_length] at h2
   obtain rfl:o=none:=h2
   exact run tt tt
end Go.Proofs.YtlikpcpllahalaaGreat.V
namespace Go.Proofs.YtlikpcpllahalaaGreat
open Go.RowKit
theorem zY {A:Nat} {w w':World} (h:Below A w w') (hA:w.heap.size≤A):(∀g j,g<w.heap.size→w'.cell? ⟨g,j,none⟩=w.cell? ⟨g,j,none⟩)∧(∀g j,g<w.heap.size→w'.frozen? ⟨g,j,none⟩=w.frozen? ⟨g,j,none⟩):=
 ⟨fun _ _ hg=>h.cell (Nat.lt_of_lt_of_le hg hA),fun _ _ hg=>h.frozen (Nat.lt_of_lt_of_le hg hA)⟩
theorem below_drewN {B:Nat} {a w:World} (h:Below B a w) (n:Nat):Below B a (w.drewN n):=⟨h.os,h.tape,h.output,h.size,h.block⟩
theorem qc {B B':Nat} {a W w1:World} (hb:Below B' W w1) (h:Below B a W) (hB:B≤B'):Below B a w1:=h.trans (hb.mono hB)
theorem xJ (p q r:Addr) (n:Int) (A:Option Addr) (len cap:Nat) (x:Value) (u:FrameMode) (w:World) (hp:w.cell? p=some (.int .i64 n)) (hq:w.cell? q=some (.slice A len cap)) (hr:w.cell? r=some x) (hf:w.frozen? r=false):
 CallsD Tryz.prog 239 #[.pointer (some p),.pointer (some q),.pointer (some r)] u w fun e u' w'=>u'=u∧(e= .returned (.tuple #[])∧w'=w.setCell r (.bool (n==(len:Int)))):=by
 go_enter_d Tryz.func239,Tryz.ntmps239
 go_wp2
 go_end0
 exact⟨rfl,rfl⟩
theorem TB (g off cap:Nat) (P0 P1 P2 P3:Addr) (b0 b1 b2 b3:Bool) (w:World) (hg:g<w.heap.size) (_hcap:4≤cap)
 (h0:w.cell? ⟨g,off,none⟩=some (.func (.func 212) #[] #[.pointer (some P0)])) (h1:w.cell? ⟨g,off+1,none⟩=some (.func (.func 213) #[] #[.pointer (some P1)]))
 (h2:w.cell? ⟨g,off+2,none⟩=some (.func (.func 214) #[] #[.pointer (some P2)])) (h3:w.cell? ⟨g,off+3,none⟩=some (.func (.func 216) #[] #[.pointer (some P3)]))
 (k0:∀W,Below w.heap.size w W→Calls Tryz.prog 212 #[.pointer (some P0)] W fun e w'=>e= .returned (.bool b0)∧Below W.heap.size W w')
 (k1:∀W,Below w.heap.size w W→Calls Tryz.prog 213 #[.pointer (some P1)] W fun e w'=>e= .returned (.bool b1)∧Below W.heap.size W w')
 (k2:∀W,Below w.heap.size w W→Calls Tryz.prog 214 #[.pointer (some P2)] W fun e w'=>e= .returned (.bool b2)∧Below W.heap.size W w')
 (k3:∀W,Below w.heap.size w W→Calls Tryz.prog 216 #[.pointer (some P3)] W fun e w'=>e= .returned (.bool b3)∧Below W.heap.size W w'):
 Calls Tryz.prog 211 #[.slice (some ⟨g,off,none⟩) 4 cap] w fun e w'=>e= .returned (.bool (b0&&b1&&b2&&b3))∧Below w.heap.size w w':=by
 have K0:=Lib.hid k0
 have K1:=Lib.hid k1
 have K2:=Lib.hid k2
 have K3:=Lib.hid k3
 clear k0 k1 k2 k3
 have hmf:∀(fn:Fn) (first cap:Array Value) (w:World),(Instr.makeFunc fn first cap).run Tryz.prog w= .ok (.func fn first cap) w:=fun _ _ _ _=>rfl
 go_enter_defers Tryz.func211,Tryz.ntmps211
 go_wp2
 go_loopw [9] (fun i wr=>∃(k:Nat),k≤4∧i= .int .i64 k∧([b0,b1,b2,b3].take k).all id=true∧Below w.heap.size w wr∧w.heap.size+1+1<wr.heap.size∧
  wr.cell? ⟨w.heap.size,0,none⟩=some (.slice (some ⟨g,off,none⟩) 4 cap)∧wr.cell? ⟨w.heap.size+1,0,none⟩=some (.bool false)∧wr.frozen? ⟨w.heap.size+1,0,none⟩=false∧
  wr.cell? ⟨w.heap.size+1+1,0,none⟩=some (.int .i64 k)∧wr.frozen? ⟨w.heap.size+1+1,0,none⟩=false) (fun i _=>4-(intOf i).toNat)
 case atStart=>exact⟨0,by omega,rfl,rfl,(by repeat'(first|(with_reducible exact Below.refl _ _)|(with_reducible refine Below.alloc ?_ ?_ _)|(with_reducible refine Below.setCell ?_ ?_ _)|(with_reducible refine below_drewN ?_ _)|(with_reducible refine Below.drew ?_)|(with_reducible exact Nat.le_refl _)|omega|(simp;done)|((try simp);omega))),by simp,by simp[go_sem],by simp[go_sem],by simp[go_sem],by simp[go_sem],by simp[go_sem]⟩
 case round=>
  obtain⟨k,hk,rfl,hs,hwr,hz,r0,r1,r2,r3,r4⟩:=hrel
  have Hs:=Lib.hid hs
  clear hs
  have Hwr:=Lib.hid hwr
  have z0:w.heap.size<wr.heap.size:=by omega
  have z1:w.heap.size+1<wr.heap.size:=by omega
  have hgz:g<wr.heap.size:=by omega
  rcases(by omega:k=0∨k=1∨k=2∨k=3∨k=4) with rfl|rfl|rfl|rfl|rfl
  ·have hw0:wr.cell? _=_:=(hwr.cell (p:=⟨g,off,none⟩) hg).trans h0
   clear h0 h1 h2 h3 hwr
   go_wp2_with fail
   refine(K0.out _ Hwr.out).mono ?_
   rintro e w1 ⟨rfl,hb1⟩
   obtain⟨hc1,hf1⟩:=zY hb1 (Nat.le_refl _)
   have hz1:w.heap.size+1+1<w1.heap.size:=by have:=hb1.size;omega
   have hq0:=(hc1 w.heap.size 0 z0).trans r0
   have hq1:=(hc1 (w.heap.size+1) 0 z1).trans r1
   have hq2:=(hf1 (w.heap.size+1) 0 z1).trans r2
   have hq3:=(hc1 (w.heap.size+1+1) 0 hz).trans r3
   have hq4:=(hf1 (w.heap.size+1+1) 0 hz).trans r4
   clear hc1 hf1
   cases b0
   ·go_wp2
    refine leaves_cons (f:=239) (args:= #[.pointer (some ⟨w.heap.size+1+1,0,none⟩),.pointer (some ⟨w.heap.size,0,none⟩),.pointer (some ⟨w.heap.size+1,0,none⟩)]) (by simp) (by simp[go_sem]) ?_
    refine(xJ _ _ _ _ _ _ _ _ .returning _ hq3 hq0 hq1 hq2).mono ?_
    rintro e u' w'' ⟨rfl,rfl,rfl⟩
    simp only[Leaves,settle]
    refine⟨.bool false,by simp[results,Tryz.results211,go_sem,hq1],by simp,(by have hs0:=Below.size Hwr.out;have hs1:=Below.size hb1;repeat'(first|(with_reducible exact Hwr.out)|(with_reducible refine qc hb1 ?_ ?_)|(with_reducible exact Below.refl _ _)|(with_reducible refine Below.alloc ?_ ?_ _)|(with_reducible refine Below.setCell ?_ ?_ _)|(with_reducible refine below_drewN ?_ _)|(with_reducible refine Below.drew ?_)|(with_reducible exact Nat.le_refl _)|omega|(simp;done)|((try simp at hs0);(try simp at hs1);(try simp);omega)))⟩
   ·go_wp2
    go_roundw
    case rel=>
     refine⟨0+1,by omega,by rfl,(by have hh:=Hs.out;first|rfl|simpa using hh),(by have hs0:=Below.size Hwr.out;have hs1:=Below.size hb1;repeat'(first|(with_reducible exact Hwr.out)|(with_reducible refine qc hb1 ?_ ?_)|(with_reducible exact Below.refl _ _)|(with_reducible refine Below.alloc ?_ ?_ _)|(with_reducible refine Below.setCell ?_ ?_ _)|(with_reducible refine below_drewN ?_ _)|(with_reducible refine Below.drew ?_)|(with_reducible exact Nat.le_refl _)|omega|(simp;done)|((try simp at hs0);(try simp at hs1);(try simp);omega))),by simpa[World.setCell] using hz1,?_,?_,?_,?_,?_⟩
     all_goals simp[go_sem,hq0,hq1,hq2,hq3,hq4]
    case measure=>simp[intOf]
  ·have hw1:wr.cell? _=_:=(hwr.cell (p:=⟨g,off+1,none⟩) hg).trans h1
   clear h0 h1 h2 h3 hwr
   go_wp2_with fail
   refine(K1.out _ Hwr.out).mono ?_
   rintro e w1 ⟨rfl,hb1⟩
   obtain⟨hc1,hf1⟩:=zY hb1 (Nat.le_refl _)
   have hz1:w.heap.size+1+1<w1.heap.size:=by have:=hb1.size;omega
   have hq0:=(hc1 w.heap.size 0 z0).trans r0
   have hq1:=(hc1 (w.heap.size+1) 0 z1).trans r1
   have hq2:=(hf1 (w.heap.size+1) 0 z1).trans r2
   have hq3:=(hc1 (w.heap.size+1+1) 0 hz).trans r3
   have hq4:=(hf1 (w.heap.size+1+1) 0 hz).trans r4
   clear hc1 hf1
   cases b1
   ·go_wp2
    refine leaves_cons (f:=239) (args:= #[.pointer (some ⟨w.heap.size+1+1,0,none⟩),.pointer (some ⟨w.heap.size,0,none⟩),.pointer (some ⟨w.heap.size+1,0,none⟩)]) (by simp) (by simp[go_sem]) ?_
    refine(xJ _ _ _ _ _ _ _ _ .returning _ hq3 hq0 hq1 hq2).mono ?_
    rintro e u' w'' ⟨rfl,rfl,rfl⟩
    simp only[Leaves,settle]
    refine⟨.bool false,by simp[results,Tryz.results211,go_sem,hq1],by simp,(by have hs0:=Below.size Hwr.out;have hs1:=Below.size hb1;repeat'(first|(with_reducible exact Hwr.out)|(with_reducible refine qc hb1 ?_ ?_)|(with_reducible exact Below.refl _ _)|(with_reducible refine Below.alloc ?_ ?_ _)|(with_reducible refine Below.setCell ?_ ?_ _)|(with_reducible refine below_drewN ?_ _)|(with_reducible refine Below.drew ?_)|(with_reducible exact Nat.le_refl _)|omega|(simp;done)|((try simp at hs0);(try simp at hs1);(try simp);omega)))⟩
   ·go_wp2
    go_roundw
    case rel=>
     refine⟨1+1,by omega,by rfl,(by have hh:=Hs.out;first|rfl|simpa using hh),(by have hs0:=Below.size Hwr.out;have hs1:=Below.size hb1;repeat'(first|(with_reducible exact Hwr.out)|(with_reducible refine qc hb1 ?_ ?_)|(with_reducible exact Below.refl _ _)|(with_reducible refine Below.alloc ?_ ?_ _)|(with_reducible refine Below.setCell ?_ ?_ _)|(with_reducible refine below_drewN ?_ _)|(with_reducible refine Below.drew ?_)|(with_reducible exact Nat.le_refl _)|omega|(simp;done)|((try simp at hs0);(try simp at hs1);(try simp);omega))),by simpa[World.setCell] using hz1,?_,?_,?_,?_,?_⟩
     all_goals simp[go_sem,hq0,hq1,hq2,hq3,hq4]
    case measure=>simp[intOf]
  ·have hw2:wr.cell? _=_:=(hwr.cell (p:=⟨g,off+2,none⟩) hg).trans h2
   clear h0 h1 h2 h3 hwr
   go_wp2_with fail
   refine(K2.out _ Hwr.out).mono ?_
   rintro e w1 ⟨rfl,hb1⟩
   obtain⟨hc1,hf1⟩:=zY hb1 (Nat.le_refl _)
   have hz1:w.heap.size+1+1<w1.heap.size:=by have:=hb1.size;omega
   have hq0:=(hc1 w.heap.size 0 z0).trans r0
   have hq1:=(hc1 (w.heap.size+1) 0 z1).trans r1
   have hq2:=(hf1 (w.heap.size+1) 0 z1).trans r2
   have hq3:=(hc1 (w.heap.size+1+1) 0 hz).trans r3
   have hq4:=(hf1 (w.heap.size+1+1) 0 hz).trans r4
   clear hc1 hf1
   cases b2
   ·go_wp2
    refine leaves_cons (f:=239) (args:= #[.pointer (some ⟨w.heap.size+1+1,0,none⟩),.pointer (some ⟨w.heap.size,0,none⟩),.pointer (some ⟨w.heap.size+1,0,none⟩)]) (by simp) (by simp[go_sem]) ?_
    refine(xJ _ _ _ _ _ _ _ _ .returning _ hq3 hq0 hq1 hq2).mono ?_
    rintro e u' w'' ⟨rfl,rfl,rfl⟩
    simp only[Leaves,settle]
    refine⟨.bool false,by simp[results,Tryz.results211,go_sem,hq1],by simp,(by have hs0:=Below.size Hwr.out;have hs1:=Below.size hb1;repeat'(first|(with_reducible exact Hwr.out)|(with_reducible refine qc hb1 ?_ ?_)|(with_reducible exact Below.refl _ _)|(with_reducible refine Below.alloc ?_ ?_ _)|(with_reducible refine Below.setCell ?_ ?_ _)|(with_reducible refine below_drewN ?_ _)|(with_reducible refine Below.drew ?_)|(with_reducible exact Nat.le_refl _)|omega|(simp;done)|((try simp at hs0);(try simp at hs1);(try simp);omega)))⟩
   ·go_wp2
    go_roundw
    case rel=>
     refine⟨2+1,by omega,by rfl,(by have hh:=Hs.out;first|rfl|simpa using hh),(by have hs0:=Below.size Hwr.out;have hs1:=Below.size hb1;repeat'(first|(with_reducible exact Hwr.out)|(with_reducible refine qc hb1 ?_ ?_)|(with_reducible exact Below.refl _ _)|(with_reducible refine Below.alloc ?_ ?_ _)|(with_reducible refine Below.setCell ?_ ?_ _)|(with_reducible refine below_drewN ?_ _)|(with_reducible refine Below.drew ?_)|(with_reducible exact Nat.le_refl _)|omega|(simp;done)|((try simp at hs0);(try simp at hs1);(try simp);omega))),by simpa[World.setCell] using hz1,?_,?_,?_,?_,?_⟩
     all_goals simp[go_sem,hq0,hq1,hq2,hq3,hq4]
    case measure=>simp[intOf]
  ·have hw3:wr.cell? _=_:=(hwr.cell (p:=⟨g,off+3,none⟩) hg).trans h3
   clear h0 h1 h2 h3 hwr
   go_wp2_with fail
   refine(K3.out _ Hwr.out).mono ?_
   rintro e w1 ⟨rfl,hb1⟩
   obtain⟨hc1,hf1⟩:=zY hb1 (Nat.le_refl _)
   have hz1:w.heap.size+1+1<w1.heap.size:=by have:=hb1.size;omega
   have hq0:=(hc1 w.heap.size 0 z0).trans r0
   have hq1:=(hc1 (w.heap.size+1) 0 z1).trans r1
   have hq2:=(hf1 (w.heap.size+1) 0 z1).trans r2
   have hq3:=(hc1 (w.heap.size+1+1) 0 hz).trans r3
   have hq4:=(hf1 (w.heap.size+1+1) 0 hz).trans r4
   clear hc1 hf1
   cases b3
   ·go_wp2
    refine leaves_cons (f:=239) (args:= #[.pointer (some ⟨w.heap.size+1+1,0,none⟩),.pointer (some ⟨w.heap.size,0,none⟩),.pointer (some ⟨w.heap.size+1,0,none⟩)]) (by simp) (by simp[go_sem]) ?_
    refine(xJ _ _ _ _ _ _ _ _ .returning _ hq3 hq0 hq1 hq2).mono ?_
    rintro e u' w'' ⟨rfl,rfl,rfl⟩
    simp only[Leaves,settle]
    refine⟨.bool false,by simp[results,Tryz.results211,go_sem,hq1],by simp,(by have hs0:=Below.size Hwr.out;have hs1:=Below.size hb1;repeat'(first|(with_reducible exact Hwr.out)|(with_reducible refine qc hb1 ?_ ?_)|(with_reducible exact Below.refl _ _)|(with_reducible refine Below.alloc ?_ ?_ _)|(with_reducible refine Below.setCell ?_ ?_ _)|(with_reducible refine below_drewN ?_ _)|(with_reducible refine Below.drew ?_)|(with_reducible exact Nat.le_refl _)|omega|(simp;done)|((try simp at hs0);(try simp at hs1);(try simp);omega)))⟩
   ·go_wp2
    go_roundw
    case rel=>
     refine⟨3+1,by omega,by rfl,(by have hh:=Hs.out;first|rfl|simpa using hh),(by have hs0:=Below.size Hwr.out;have hs1:=Below.size hb1;repeat'(first|(with_reducible exact Hwr.out)|(with_reducible refine qc hb1 ?_ ?_)|(with_reducible exact Below.refl _ _)|(with_reducible refine Below.alloc ?_ ?_ _)|(with_reducible refine Below.setCell ?_ ?_ _)|(with_reducible refine below_drewN ?_ _)|(with_reducible refine Below.drew ?_)|(with_reducible exact Nat.le_refl _)|omega|(simp;done)|((try simp at hs0);(try simp at hs1);(try simp);omega))),by simpa[World.setCell] using hz1,?_,?_,?_,?_,?_⟩
     all_goals simp[go_sem,hq0,hq1,hq2,hq3,hq4]
    case measure=>simp[intOf]
  ·go_wp2
   refine leaves_cons (f:=239) (args:= #[.pointer (some ⟨w.heap.size+1+1,0,none⟩),.pointer (some ⟨w.heap.size,0,none⟩),.pointer (some ⟨w.heap.size+1,0,none⟩)]) (by simp) (by simp[go_sem]) ?_
   refine(xJ _ _ _ _ _ _ _ _ .returning _ r3 r0 r1 r2).mono ?_
   rintro e u' w'' ⟨rfl,rfl,rfl⟩
   simp only[Leaves,settle]
   have hh:=Hs.out
   refine⟨.bool true,by simp[results,Tryz.results211,go_sem,r1],?_,(by have hs0:=Below.size Hwr.out;repeat'(first|(with_reducible exact Hwr.out)|(with_reducible exact Below.refl _ _)|(with_reducible refine Below.alloc ?_ ?_ _)|(with_reducible refine Below.setCell ?_ ?_ _)|(with_reducible refine below_drewN ?_ _)|(with_reducible refine Below.drew ?_)|(with_reducible exact Nat.le_refl _)|omega|(simp;done)|((try simp at hs0);(try simp);omega)))⟩
   simp at hh
   simp[hh]
namespace V
theorem Fun.bool {P:Program} {f:FuncId} {x:AV} {b:Bool} (h:Fun P f [x] (bool b)) {w:World} {v:Value} (hv:RepD (fun _=>False) w v x):Calls P f #[v] w fun e w'=>e= .returned (.bool b)∧Below w.heap.size w w':=by
 refine(h (fun _=>False) w #[v] (fun _ h=>h.elim) rfl (fun i u y hu hy=> ?_)).mono ?_
 ·rcases i with _|i
  ·simp at hu hy;subst hu hy;exact hv
  ·simp at hy
 ·rintro e w' ⟨u,rfl,hu,hb⟩
  cases hu
  exact⟨rfl,hb⟩
theorem TC {l:List AV} (hl:l≠ []) {b0 b1 b2 b3:Bool} (c0:Fun Tryz.prog 212 [.pp l] (bool b0)) (c1:Fun Tryz.prog 213 [.pp l] (bool b1)) (c2:Fun Tryz.prog 214 [.pp l] (bool b2)) (c3:Fun Tryz.prog 216 [.pp l] (bool b3)):
 Fun Tryz.prog 211 [.sl false 1 [[.fn (.func 212) [] [.pp l]],[.fn (.func 213) [] [.pp l]],[.fn (.func 214) [] [.pp l]],[.fn (.func 216) [] [.pp l]]]] (bool (b0&&b1&&b2&&b3)):=by
 intro M w vs hM hsz hvs
 obtain⟨v,rfl⟩:∃v,vs= #[v]:=by
  refine⟨vs[0]'(by simp at hsz;omega),?_⟩
  apply Array.ext
  ·simpa using hsz
  ·intro i h1 h2
   have:i=0:=by simp at h2;omega
   subst this;rfl
 have hv:=hvs 0 v _ rfl rfl
 obtain⟨A,cap,rfl,hcap,-,-⟩:=hv.sl_val
 cases hv with
 |sl g off x hn hc hm hf hk hA hl' hx=>
  obtain⟨rfl,-,hg⟩:=hA (by simp)
  have key:∀(i:Nat) (f:FuncId),i<4→(∀y,([[.fn (.func 212) [] [.pp l]],[.fn (.func 213) [] [.pp l]],[.fn (.func 214) [] [.pp l]],[.fn (.func 216) [] [.pp l]]]:List (List AV))[i]? =some y→y=[.fn (.func f) [] [.pp l]])→
   ∃p,w.cell? ⟨g,off+i,none⟩=some (.func (.func f) #[] #[.pointer (some p)])∧RepD M w (.pointer (some p)) (.pp l):=by
   intro i f hi hy
   obtain⟨y,hy'⟩:∃y,([[.fn (.func 212) [] [.pp l]],[.fn (.func 213) [] [.pp l]],[.fn (.func 214) [] [.pp l]],[.fn (.func 216) [] [.pp l]]]:List (List AV))[i]? =some y:=⟨_,List.getElem?_eq_getElem (by simpa using hi)⟩
   have:=hy y hy'
   subst this
   have h1:=hl' i 0 (by simpa using hi) (by omega)
   have h2:=hx i _ 0 _ hy' rfl
   have h3:∃p,x i 0= .func (.func f) #[] #[.pointer (some p)]∧RepD M w (.pointer (some p)) (.pp l):=by
    generalize x i 0=u at h2
    cases h2 with
    | @fn _ fs cs _ _ hf hc e1 e2=>
      obtain rfl:fs= #[]:=Array.eq_empty_of_size_eq_zero (by simpa using hf)
      obtain⟨c,rfl⟩:∃c,cs= #[c]:=by
       refine⟨cs[0]'(by simp at hc;omega),?_⟩
       apply Array.ext
       ·simpa using hc
       ·intro i h1 h2
        have:i=0:=by simp at h2;omega
        subst this;rfl
      have h4:=e2 0 c _ rfl rfl
      have h4':RepA (fun _=>none) M w c (.pp l):= .d h4
      obtain⟨g',o',rfl⟩:=h4'.pp_addr
      exact⟨_,rfl,h4⟩
   obtain⟨p,h4,h5⟩:=h3
   rw[h4] at h1
   exact⟨p,by simpa using h1.1,h5⟩
  obtain⟨P0,e0,r0⟩:=key 0 _ (by omega) (fun y h=>by injection h with h;exact h.symm)
  obtain⟨P1,e1,r1⟩:=key 1 _ (by omega) (fun y h=>by injection h with h;exact h.symm)
  obtain⟨P2,e2,r2⟩:=key 2 _ (by omega) (fun y h=>by injection h with h;exact h.symm)
  obtain⟨P3,e3,r3⟩:=key 3 _ (by omega) (fun y h=>by injection h with h;exact h.symm)
  have kp:∀ {W:World} {v:Value},Below w.heap.size w W→RepD M w v (.pp l)→RepD (fun _=>False) W v (.pp l):=fun hb h=>h.keep (fun _ _ h=>h.elim) hb.size fun g hg _=>hb.block g hg
  refine(TB g off cap P0 P1 P2 P3 b0 b1 b2 b3 w hg (by simpa using hcap) e0 e1 e2 e3 (fun W hb=>c0.bool (kp hb r0)) (fun W hb=>c1.bool (kp hb r1)) (fun W hb=>c2.bool (kp hb r2)) (fun W hb=>c3.bool (kp hb r3))).mono ?_
  rintro e w' ⟨rfl,hb⟩
  exact⟨_,rfl,.v _,hb⟩
end V
end Go.Proofs.YtlikpcpllahalaaGreat
namespace Go.Proofs.YtlikpcpllahalaaGreat.V
open Go.RowKit
set_option maxRecDepth 100000
def Em (a b:Int):Bool:=decide (1≤jQ a b)&&decide (jQ a b≤1100)
def Terms.right (t:Terms):Bool:=p9 t.from_ t.to_&&Em t.from_ t.to_&&lG t.kind t.value t.age t.zone&&qa t.covers
theorem TD (t:Terms):Fun Tryz.prog 212 [.pp t.flat] (bool (p9 t.from_ t.to_)):=by
 refine af Tryz.func212 fun cx hN hR hF hL=> ?_
 refine' run tt (l4 fun K hK=> ?_)
 (refine bR H6 (Ej _ _) ai ?_)
 (revert K;refine bK ?_;exact run tt tt)
theorem TE (t:Terms):Fun Tryz.prog 213 [.pp t.flat] (bool (Em t.from_ t.to_)):=by
 refine af Tryz.func213 fun cx hN hR hF hL=> ?_
 refine' run tt (l4 fun K hK=> ?_)
 (refine bR H7 (ni _ _) ai ?_)
 (revert K;refine bK ?_;refine' run tt (l4 fun K hK=> ?_))
 (refine bR H7 (ni _ _) ai ?_)
 (revert K;refine bK ?_;refine' run tt (l1 ?_))
 rfl
theorem TF (t:Terms):Fun Tryz.prog 214 [.pp t.flat] (bool (lG t.kind t.value t.age t.zone)):=by
 refine af Tryz.func214 fun cx hN hR hF hL=> ?_
 refine' run tt (l4 fun K hK=> ?_)
 (refine bR Ib (xI _ _ _ _) ai ?_)
 (revert K;refine bK ?_;exact run tt tt)
theorem TG (t:Terms):Fun Tryz.prog 216 [.pp t.flat] (bool (qa t.covers)):=by
 refine af Tryz.func216 fun cx hN hR hF hL=> ?_
 refine' run tt (l4 fun K hK=> ?_)
 (refine bR Ic (JJ _) ai ?_)
 (revert K;refine bK ?_;exact run tt tt)
theorem xK (t:Terms):Fun Tryz.prog 181 [.agg t.flat] (bool t.right):=by
 refine af Tryz.func181 fun cx hN hR hF hL=> ?_
 refine' run tt (l4 fun K hK=> ?_)
 (refine d9 [0,1032] (TC (l:=t.flat) (by simp[Terms.flat]) (TD t) (TE t) (TF t) (TG t)) ?_)
 (revert K;refine bK ?_;refine' run tt (l1 ?_))
 rfl
theorem xL (l:List Cover) (f:Bool) (hl:l.length≤100000):Fun Tryz.prog 167 [.sl f 5 (l.map Cover.flat)] (dz l):=by
 refine af Tryz.func167 fun cx hN hR hF hL=> ?_
 refine' run tt (l2 ?_ (l4 fun K hK=> ?_))
 rotate_left
 ·simp[maxLen];omega
 exact⟨bS Cover.len l,dR Cover.len Cover.data l rfl⟩
def zZ (n:Int):Bool:=decide (1≤n)&&decide (n≤292194)
theorem xM (n:Int):Fun Tryz.prog 210 [int n] (bool (zZ n)):=by
 refine af Tryz.func210 fun cx hN hR hF hL=> ?_
 refine' run tt (l1 ?_)
 rfl
def En (a b c d:Int):Bool:=decide ([a,b,c,d]=[0,0,0,0])
def AA (c:Change):Bool:=lG c.rk c.rv c.ra c.rz&&decide ((c.covers.length:Int)=0)&&decide (c.way=0)
def AC (c:Change):Bool:=qa c.covers&&En c.rk c.rv c.ra c.rz&&decide (c.way=0)
def AJ (c:Change):Bool:=(decide (c.way=0)||decide (c.way=1))&&decide ((c.covers.length:Int)=0)&&En c.rk c.rv c.ra c.rz
def AL (c:Change):Bool:=decide (c.way=0)&&decide ((c.covers.length:Int)=0)&&En c.rk c.rv c.ra c.rz
theorem TH (c:Change):Fun Tryz.prog 235 [.agg c.flat] (bool (AA c)):=by
 refine af Tryz.func235 fun cx hN hR hF hL=> ?_
 refine' run tt (l4 fun K hK=> ?_)
 (refine bR Ib (xI _ _ _ _) ai ?_)
 (revert K;refine bK ?_;refine' run tt (l1 ?_))
 rfl
theorem TJ (c:Change):Fun Tryz.prog 236 [.agg c.flat] (bool (AC c)):=by
 refine af Tryz.func236 fun cx hN hR hF hL=> ?_
 refine' run tt (l4 fun K hK=> ?_)
 (refine bR Ic (JJ _) ai ?_)
 (revert K;refine bK ?_;refine' run tt (l1 ?_))
 rfl
theorem TM (c:Change):Fun Tryz.prog 237 [.agg c.flat] (bool (AJ c)):=by
 refine af Tryz.func237 fun cx hN hR hF hL=> ?_
 refine' run tt (l1 ?_)
 rfl
theorem TN (c:Change):Fun Tryz.prog 238 [.agg c.flat] (bool (AL c)):=by
 refine af Tryz.func238 fun cx hN hR hF hL=> ?_
 refine' run tt (l1 ?_)
 rfl
theorem Eo (t:Terms) (hl:t.covers.length≤100000):Fun Tryz.prog 280 [.agg t.flat] (.agg t.flat):=by
 refine af Tryz.func280 fun cx hN hR hF hL=> ?_
 refine' run tt (l4 fun K hK=> ?_)
 (refine bR zk (xL _ _ hl) ai ?_)
 (revert K;refine bK ?_;exact run tt tt)
end Go.Proofs.YtlikpcpllahalaaGreat.V
namespace Go.Proofs.YtlikpcpllahalaaGreat.V
open Go.RowKit
set_option maxRecDepth 100000
def qd:Array MapEntry:= #[{key:= .int .i64 1,val:= .func (.func 235) #[] #[],born:=0},{key:= .int .i64 2,val:= .func (.func 236) #[] #[],born:=1},
 {key:= .int .i64 3,val:= .func (.func 237) #[] #[],born:=2},{key:= .int .i64 4,val:= .func (.func 238) #[] #[],born:=3}]
theorem AO {P:Program} {t kt et:TypeId} (ht:P.underlying t=some (.map kt et)) (hk:P.underlying kt=some (.int .i64)) (es:Array MapEntry) (c:Nat) (k:Int) (v:Value)
 (hf:Instr.findNow (.int .i64) (.int .i64 k) es.toList 0=some none) (w:World) (r:Nat) (hr:r=w.heap.size):
 (Instr.mapUpdate t (.map (some r)) (.int .i64 k) v).run P (w.alloc (.map es c))= .ok () (w.alloc (.map (es.push {key:= .int .i64 k,val:=v,born:=c}) (c+1))):=by
 subst hr
 have h1:(w.alloc (.map es c)).heap[w.heap.size]? =some (.map es c):=heap_alloc_new w _
 have h2:∀o,({(w.alloc (.map es c)) with heap:=(w.alloc (.map es c)).heap.setIfInBounds w.heap.size o}:World)=w.alloc o:=by
  intro o
  show({w with heap:=(w.heap.push _).setIfInBounds w.heap.size o}:World)={w with heap:=w.heap.push o}
  congr 1
  apply Array.ext_getElem?
  intro i
  rw[Array.getElem?_setIfInBounds,Array.getElem?_push,Array.getElem?_push]
  by_cases h5:i=w.heap.size
  ·subst h5;simp
  ·rw[if_neg (fun h=>h5 h.symm),if_neg h5,if_neg h5]
 simp only[Instr.mapUpdate,Sem.run_bind,run_underlying ht,Result.andThen_ok,MapKept.run_getObj_map h1,MapKept.run_checkKey hk (show MapKept.IsKey (.int .i64) (.int .i64 k) from rfl),MapKept.run_findKey hk hf,MapKept.run_setObj_map _ h1,h2]
theorem TP (w:World):Calls Tryz.prog 209 #[] w fun e w'=>e= .returned (.map (some w.heap.size))∧w.alloc (.map qd 4)=w':=by
 have hmm:= @run_makeMap Tryz.prog
 have ht:=Tryz.underlying368
 have hk:=Tryz.underlying3
 have i1:=fun w:World=>AO (P:=Tryz.prog) ht hk #[] 0 1 (.func (.func 235) #[] #[]) rfl w _ rfl
 have i2:=fun w:World=>AO (P:=Tryz.prog) ht hk #[{key:= .int .i64 1,val:= .func (.func 235) #[] #[],born:=0}] 1 2 (.func (.func 236) #[] #[]) rfl w _ rfl
 have i3:=fun w:World=>AO (P:=Tryz.prog) ht hk #[{key:= .int .i64 1,val:= .func (.func 235) #[] #[],born:=0},{key:= .int .i64 2,val:= .func (.func 236) #[] #[],born:=1}] 2 3 (.func (.func 237) #[] #[]) rfl w _ rfl
 have i4:=fun w:World=>AO (P:=Tryz.prog) ht hk #[{key:= .int .i64 1,val:= .func (.func 235) #[] #[],born:=0},{key:= .int .i64 2,val:= .func (.func 236) #[] #[],born:=1},{key:= .int .i64 3,val:= .func (.func 237) #[] #[],born:=2}] 3 4 (.func (.func 238) #[] #[]) rfl w _ rfl
 simp only[List.push_toArray,List.cons_append,List.nil_append,Nat.zero_add,Nat.reduceAdd] at i1 i2 i3 i4
 clear ht hk
 go_enter Tryz.func209,Tryz.ntmps209
 go_wp2
 go_ret
 exact⟨rfl,rfl⟩
theorem xN:Fun Tryz.prog 209 [] (.mp qd 4):=by
 intro M w vs hM hsz _
 obtain rfl:vs= #[]:=Array.eq_empty_of_size_eq_zero (by simpa using hsz)
 refine(TP w).mono ?_
 rintro e w' ⟨rfl,rfl⟩
 exact⟨_,rfl,.mp (fun h=>by have:=hM _ h;omega) (heap_alloc_new w _),(Below.refl _ _).alloc (Nat.le_refl _) _⟩
theorem TQ {k:Int} (h1:k≠1) (h2:k≠2) (h3:k≠3) (h4:k≠4):Instr.findNow (.int .i64) (.int .i64 k) qd.toList 0=some none:=by
 have e1:(k==1)=false:=by simpa using h1
 have e2:(k==2)=false:=by simpa using h2
 have e3:(k==3)=false:=by simpa using h3
 have e4:(k==4)=false:=by simpa using h4
 simp[qd,Instr.findNow,Instr.sameNow,e1,e2,e3,e4]
def rW (c:Change):Bool:=
 if c.kind=1 then AA c else if c.kind=2 then AC c else if c.kind=3 then AJ c else if c.kind=4 then AL c else false
def Change.right (c:Change):Bool:=zZ c.booked&&zZ c.day&&rW c
theorem AP (c:Change):Fun Tryz.prog 180 [.agg c.flat] (bool c.right):=by
 have hu:=Tryz.underlying368
 by_cases hk4:c.kind=1∨c.kind=2∨c.kind=3∨c.kind=4
 ·rcases hk4 with hk|hk|hk|hk
  ·have hf:Instr.findNow (.int .i64) (.int .i64 1) qd.toList 0=some (some (1-1,.func (.func 235) #[] #[])):=rfl
   refine af Tryz.func180 fun cx hN hR hF hL=> ?_
   refine' aj (I hk (I hf hu)) (I xN (I xM (TH {c with kind:=1}))) (l1 ?_)
   simp[Change.right,rW,hk,AA]
  ·have hf:Instr.findNow (.int .i64) (.int .i64 2) qd.toList 0=some (some (2-1,.func (.func 236) #[] #[])):=rfl
   refine af Tryz.func180 fun cx hN hR hF hL=> ?_
   refine' aj (I hk (I hf hu)) (I xN (I xM (TJ {c with kind:=2}))) (l1 ?_)
   simp[Change.right,rW,hk,AC]
  ·have hf:Instr.findNow (.int .i64) (.int .i64 3) qd.toList 0=some (some (3-1,.func (.func 237) #[] #[])):=rfl
   refine af Tryz.func180 fun cx hN hR hF hL=> ?_
   refine' aj (I hk (I hf hu)) (I xN (I xM (TM {c with kind:=3}))) (l1 ?_)
   simp[Change.right,rW,hk,AJ]
  ·have hf:Instr.findNow (.int .i64) (.int .i64 4) qd.toList 0=some (some (4-1,.func (.func 238) #[] #[])):=rfl
   refine af Tryz.func180 fun cx hN hR hF hL=> ?_
   refine' aj (I hk (I hf hu)) (I xN (I xM (TN {c with kind:=4}))) (l1 ?_)
   simp[Change.right,rW,hk,AL]
 ·have h1:c.kind≠1:=fun h=>hk4 (.inl h)
  have h2:c.kind≠2:=fun h=>hk4 (.inr (.inl h))
  have h3:c.kind≠3:=fun h=>hk4 (.inr (.inr (.inl h)))
  have h4:c.kind≠4:=fun h=>hk4 (.inr (.inr (.inr h)))
  have hf:=TQ h1 h2 h3 h4
  refine af Tryz.func180 fun cx hN hR hF hL=> ?_
  refine' aj (I hf hu) xN (l1 ?_)
  simp[Change.right,rW,h1,h2,h3,h4]
end Go.Proofs.YtlikpcpllahalaaGreat.V
namespace Go.Proofs.YtlikpcpllahalaaGreat.V
open Go.RowKit
set_option maxRecDepth 100000
end Go.Proofs.YtlikpcpllahalaaGreat.V
namespace Go.Proofs.YtlikpcpllahalaaGreat.V
open Go.RowKit
set_option maxRecDepth 100000
attribute [local go_sem] Option.toList_some Option.toList_none
def fG:Terms:=⟨0,0,0,0,0,0,[]⟩
def bg:History:=⟨0,0,fG,[]⟩
def uM (id booked:Int) (t:Terms):Bool:= !(decide (id<1)||decide (1000000000<id)|| !zZ booked|| !t.right)
def l5 (id booked:Int) (t:Terms):History:=if uM id booked t then⟨id,booked,t,[]⟩ else bg
def qf (id booked:Int) (t:Terms):Int:=if uM id booked t then 0 else 1
theorem TR (id booked:Int) (t:Terms) (hl:t.covers.length≤100000):Fun Tryz.prog 277 [int id,int booked,.agg t.flat] (.tup [.agg (l5 id booked t).flat,int (qf id booked t)]):=by
 refine af Tryz.func277 fun cx hN hR hF hL=> ?_
 (repeat' first|focus ((try(revert K;refine bK ?_));refine' aj tt (I xM xK) ?_;(repeat' first|exact tt|apply lv|(apply oK;intro K hK)|intro hq);all_goals apply lf)|refine mQ Dj (Eo _ hl) ?_)
 ·have hb:uM id booked t=false:=by simp only[uM];grind
  simp[l5,qf,hb,bg,fG]
 ·have hb:uM id booked t=true:=by simp only[uM];grind
  simp[l5,qf,hb]
end Go.Proofs.YtlikpcpllahalaaGreat.V
namespace Go.Proofs.YtlikpcpllahalaaGreat.V
open Go.RowKit
set_option maxRecDepth 100000
attribute [local go_sem] Option.toList_some Option.toList_none
def rX (h:History) (c:Change):Bool:=c.right&&fM h.terms.from_ h.terms.to_ c.day
def iO (h:History):Bool:=h.terms.right&&decide ((h.changes.length:Int)≤2000)&&h.changes.all (rX h)
theorem Ep {α:Type} {p:α→Bool} {l:List α} {i:Nat} (hi:i<l.length) (h:p l[i]=false):l.all p=false:=by
 rw[List.all_eq_false]
 exact⟨l[i],List.getElem_mem hi,by simp[h]⟩
theorem Er {α:Type} {p:α→Bool} {l:List α} {i:Nat} (hi:i<l.length) (h:p l[i]=true):(l.drop i).all p=(l.drop (i+1)).all p:=by
 rw[List.drop_eq_getElem_cons hi,List.all_cons,h,Bool.true_and]
theorem TS (h:History) (hl:h.changes.length≤1000000):Fun Tryz.prog 145 [.agg h.flat] (bool (iO h)):=by
 refine af Tryz.func145 fun cx hN hR hF hL=> ?_
 refine' run tt (l1 ?_)
 refine aX (σ:={i:Nat // i≤h.changes.length∧h.changes.all (rX h)=(h.changes.drop i).all (rX h)}) (fun s=>⟨[(8,int s.1),(1,.ptr 0 0),(6,jg h.changes),(7,int h.changes.length),(2,bool false)],[(0,some ⟨131,h.flat⟩)],3000⟩) (fun s=>h.changes.length-s.1) id ⟨0,by omega,rfl⟩ ?_ ?_
 ·simp only[go_sem,↓reduceIte,hF]
  all_goals rfl
 ·rintro⟨i,h1,h2⟩
  simp only at h1 h2 ⊢
  by_cases hi:i<h.changes.length
  ·have e1:(h.changes.map Change.flat)[i]? =some (h.changes[i].flat):=by rw[List.getElem?_map,List.getElem?_eq_getElem hi];rfl
   have e2:=wS i
   have k1:=AP h.changes[i]
   have k2:=rV h.terms.from_ h.terms.to_ h.changes[i].day
   cases hb:rX h h.changes[i]
   ·have hz:iO h=false:=by rw[iO,Ep hi hb,Bool.and_false]
    rw[hz]
    have hb':(!(h.changes[i].right)|| !(fM h.terms.from_ h.terms.to_ h.changes[i].day))=true:=by revert hb;rw[rX];cases h.changes[i].right<;>simp
    generalize h.changes[i]=c at *
    exact aj (I e1 (I e2 hb')) (I k1 k2) tt
   ·rw[Er hi hb] at h2
    have hb':h.changes[i].right=true∧fM h.terms.from_ h.terms.to_ h.changes[i].day=true:=by rw[rX,Bool.and_eq_true] at hb;exact hb
    rw[hb'.1] at k1
    rw[hb'.2] at k2
    generalize h.changes[i]=c at *
    refine' aj (I e1 e2) (I k1 k2) (lv (fun hq=>fun hq=>lf ?_) tt)
    refine⟨⟨i+1,hi,h2⟩,id,?_,mS⟩
    simp only[go_sem,↓reduceIte,hF]
  ·obtain rfl:i=h.changes.length:=byOmega
   rw[List.drop_length] at h2
   have k:=xK h.terms
   have hz:iO h=(h.terms.right&&decide ((h.changes.length:Int)≤2000)):=by rw[iO,h2];simp
   rw[hz]
   exact aj tt k tt
end Go.Proofs.YtlikpcpllahalaaGreat.V
namespace Go.Proofs.YtlikpcpllahalaaGreat.V
open Go.RowKit
set_option maxRecDepth 100000
attribute [local go_sem] Option.toList_some Option.toList_none
theorem TT {P:Program} {cx:Cx} {c:Code} {Q:Exit→LS→Prop} {A:LS} (h:aY P cx c (fun e L=>∃(ns:List Nat) (pb:ay) (env':Env) (box':ay),bQ L.box ns=pb∧rJ pb L.env env'∧pW ns pb L.box box'∧Q e ⟨env',box',L.next⟩) A):aY P cx c Q A:=by
 intro ι a w hs
 refine wpIn_mono (h ι a w hs) ?_
 rintro e a' w' ⟨ι',A',hs',hq⟩
 obtain⟨L,rfl,ns,pb,env',box',hp,he,hb,hq⟩:=hq
 exact⟨_,_,DK ns hp he hb hs',_,rfl,hq⟩
theorem JL (c:Cover):c.flat.length=5:=rfl
def iP (s:Sl) (c:Change):Sl:=⟨s.from_,s.to_,jk s.st c,s.yearly⟩
theorem xO (s:Sl) (c:Change) (hc:c.covers.length≤100000):aC Tryz.prog 186 [(0,⟨200,s.flat⟩)] [.ptr 0 0,.agg c.flat] (.tup []) [(0,some ⟨200,(iP s c).flat⟩)]:=by
 by_cases h1:c.kind=1
 ·have e:(iP s c).flat=[int s.from_,int s.to_,bool s.st.on,int c.rk,int c.rv,int c.ra,int c.rz,dz s.st.covers,int s.yearly]:=by simp[iP,jk,h1,Sl.flat]
  rw[e]
  refine aW 1 Tryz.func186 (fun cx hN hR hF hL=> ?_)
  exact run h1 tt
 by_cases h2:c.kind=2
 ·have e:(iP s c).flat=[int s.from_,int s.to_,bool s.st.on,int s.st.rk,int s.st.rv,int s.st.ra,int s.st.rz,dz c.covers,int s.yearly]:=by simp[iP,jk,h2,Sl.flat]
  rw[e]
  refine fu 1 Tryz.func186 rfl (Nat.le_of_ble_eq_true rfl) (by simp[go_sem]) fun cx hN hR hF hL=> ?_;apply fw;(case hA=>(simp only[go_sem,↓reduceIte];rfl));(case hB=>(simp only[go_sem,↓reduceIte];rfl))
  refine TT (aL ?_)
  refine' run h2 (lv (fun hq=>fun hq=>lf ?_) (lv (fun hq=>fun hq=>o4 fun K hK=> ?_) tt))
  ·refine⟨[5033],_,[],[(0,some ⟨200,[int s.from_,int s.to_,bool s.st.on,int s.st.rk,int s.st.rv,int s.st.ra,int s.st.rz,dz c.covers,int s.yearly]⟩)],rfl,trivial,?_,?_⟩
   ·simp only[go_sem,↓reduceIte]
    exact⟨bS (F:=Cover.flat) JL _,dR Cover.len Cover.data c.covers rfl⟩
   ·exact run tt tt
  ·simp[maxLen];omega
 by_cases h3:c.kind=3
 ·have e:(iP s c).flat=[int s.from_,int s.to_,bool false,int s.st.rk,int s.st.rv,int s.st.ra,int s.st.rz,dz s.st.covers,int s.yearly]:=by simp[iP,jk,h3,Sl.flat]
  rw[e]
  refine aW 1 Tryz.func186 (fun cx hN hR hF hL=> ?_)
  exact run h3 tt
 by_cases h4:c.kind=4
 ·have e:(iP s c).flat=[int s.from_,int s.to_,bool true,int s.st.rk,int s.st.rv,int s.st.ra,int s.st.rz,dz s.st.covers,int s.yearly]:=by simp[iP,jk,h4,Sl.flat]
  rw[e]
  refine aW 1 Tryz.func186 (fun cx hN hR hF hL=> ?_)
  exact run h4 tt
 ·have e:(iP s c).flat=s.flat:=by simp[iP,jk,h1,h2,h3,h4,Sl.flat]
  rw[e]
  refine aW 1 Tryz.func186 (fun cx hN hR hF hL=> ?_)
  exact run (I (eq_false h1) (I (eq_false h2) (I (eq_false h3) (I (eq_false h4) (I (decide_eq_false h1) (I (decide_eq_false h2) (I (decide_eq_false h3) (decide_eq_false h4)))))))) tt
end Go.Proofs.YtlikpcpllahalaaGreat.V
