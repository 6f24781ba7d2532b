/- Parts of the proof. -/
import Derived.Test.YtlikpcpllahalaaGreatG20
import Derived.Test.YtlikpcpllahalaaGreatG14
import Derived.Shelf.Strconv.Itoa0
import Derived.Laws.MathBits
import Derived.Lib.ItoaNum
set_option maxHeartbeats 16000000
set_option linter.unusedSimpArgs false
set_option linter.unusedVariables false
namespace Go.Proofs
open Go.Shelf
def Tryz.len64_ren:Go.Shelf.Ren:=⟨fun|129=>242|n=>n,fun|3=>3|4=>4|5=>5|9=>9|46=>355|53=>359|n=>n,fun|n=>n⟩
theorem Tryz.len64:Lays.n129 Tryz.prog Tryz.len64_ren:={
 mixed:=by kernel_rfl
 f129:=Tryz.func242.trans (congrArg some (by kernel_rfl))
 t3:=Tryz.underlying3
 a3:=Tryz.isAgg3
 z3:=Tryz.sizeOf3
 v3:=Tryz.zeroValue3
 t4:=Tryz.underlying4
 a4:=Tryz.isAgg4
 z4:=Tryz.sizeOf4
 v4:=Tryz.zeroValue4
 t5:=Tryz.underlying5
 a5:=Tryz.isAgg5
 z5:=Tryz.sizeOf5
 v5:=Tryz.zeroValue5
 t9:=Tryz.underlying9
 a9:=Tryz.isAgg9
 z9:=Tryz.sizeOf9
 v9:=Tryz.zeroValue9
 t46:=Tryz.underlying355
 a46:=Tryz.isAgg355
 z46:=Tryz.sizeOf355
 v46:=Tryz.zeroValue355
 t53:=Tryz.underlying359
 a53:=Tryz.isAgg359
 z53:=Tryz.sizeOf359
 v53:=Tryz.zeroValue359}
end Go.Proofs
namespace Go.Proofs.YtlikpcpllahalaaGreat.V
open Go.RowKit
set_option maxRecDepth 100000
attribute [local go_sem] Option.toList_some Option.toList_none
abbrev u64 (n:Int):AV:= .v (.int .u64 n)
theorem dK {n:Int} (h1:0≤n) (h2:n≤18446744073709551615):IntKind.u64.wrap n=n:=by
 rw[IntKind.wrap_u64];omega
theorem UB (x:Int) (h0:0≤x) (h1:x≤18446744073709551615):Fun Tryz.prog 242 [u64 x] (int (Lib.bitLen x.toNat)):=by
 intro M w vs hM hsz hv
 obtain⟨v,rfl⟩:∃v,vs= #[v]:=by
  rcases vs with⟨_|⟨v,_|⟨u,l⟩⟩⟩
  ·simp at hsz
  ·exact⟨v,rfl⟩
  ·simp at hsz
 have h:=hv 0 v (u64 x) rfl rfl
 obtain rfl:v= .int .u64 x:=by cases h;rfl
 refine(Any.bits_Len64 Tryz.len64 x w h0 h1).mono ?_
 rintro e w' ⟨rfl,rfl⟩
 exact⟨_,rfl,.v _,Below.refl _ _⟩
theorem UC (x:Int) (h0:0<x) (h1:x≤18446744073709551615):∃s:Nat,s≤63∧9223372036854775808≤x*2 ^ s∧x*2 ^ s<18446744073709551616∧Fun Tryz.prog 229 [u64 x] (int s):=by
 have k:=UB x (by omega) h1
 obtain⟨b1,b2,b3⟩:=Lib.bitLenAux_bounds 64 x.toNat (by omega) (by omega)
 have hb:Lib.bitLen x.toNat≤64:=Lib.bitLen_le _ 64 (Nat.le_refl _) (by omega)
 have e:Lib.bitLen x.toNat=Lib.bitLenAux 64 x.toNat:=rfl
 rw[←e] at b1 b2 b3
 generalize Lib.bitLen x.toNat=L at *
 have w:IntKind.i64.wrap (64-(L:Int))=((64-L:Nat):Int):=by rw[fq (by omega) (by omega)];omega
 refine⟨64-L,by omega,?_,?_,?_⟩
 ·have e1:(2:Nat) ^ (L-1)*2 ^ (64-L)=9223372036854775808:=by rw[←Nat.pow_add,show L-1+(64-L)=63 by omega]
  have e2:=Nat.mul_le_mul_right (2 ^ (64-L)) b2
  rw[e1] at e2
  have e3:x*2 ^ (64-L)=((x.toNat*2 ^ (64-L):Nat):Int):=by rw[Int.natCast_mul,Int.toNat_of_nonneg (by omega)];simp
  rw[e3]
  omega
 ·have e1:(2:Nat) ^ L*2 ^ (64-L)=18446744073709551616:=by rw[←Nat.pow_add,show L+(64-L)=64 by omega]
  have e2:=Nat.mul_lt_mul_of_pos_right b3 (Nat.two_pow_pos (64-L))
  rw[e1] at e2
  have e3:x*2 ^ (64-L)=((x.toNat*2 ^ (64-L):Nat):Int):=by rw[Int.natCast_mul,Int.toNat_of_nonneg (by omega)];simp
  rw[e3]
  omega
 ·refine af Tryz.func229 fun cx hN hR hF hL=> ?_
  exact aj w k tt
theorem Kr {A b Y:Int} (hA:0≤A) (hAY:A<Y) (hb:0≤b) (hb2:b<4294967296):0≤(A*4294967296+b)/Y∧(A*4294967296+b)/Y<4294967296:=by
 refine⟨Int.ediv_nonneg (by omega) (by omega),?_⟩
 rw[Int.ediv_lt_iff_lt_mul (by omega)]
 omega
theorem Kt {A b Y q:Int} (hY:0<Y) (h:q*Y≤A*4294967296+b):q≤(A*4294967296+b)/Y:=by
 rwa [Int.le_ediv_iff_mul_le hY]
theorem UD {A b Y q:Int} (hY:0<Y) (h:A*4294967296+b<q*Y):(A*4294967296+b)/Y<q:=by
 rwa [Int.ediv_lt_iff_lt_mul hY]
theorem AY (q y1 y0:Int):q*(y1*4294967296+y0)=q*y1*4294967296+q*y0:=by grind
theorem Ku {A b Y y1 y0:Int} (hYe:Y=y1*4294967296+y0) (h1:0<y1) (h0:0≤y0) (hA:0≤A) (hb:0≤b) (hb2:b<4294967296):(A*4294967296+b)/Y≤A/y1:=by
 have hY:0<Y:=by omega
 rw[Int.le_ediv_iff_mul_le h1]
 have h:=Int.ediv_mul_le (A*4294967296+b) (show Y≠0 by omega)
 have hn:0≤(A*4294967296+b)/Y:=Int.ediv_nonneg (by omega) (by omega)
 generalize (A*4294967296+b)/Y=q at *
 rw[hYe,AY] at h
 have:=Int.mul_nonneg hn h0
 omega
theorem Kv {A b Y y1 y0 q r:Int} (hYe:Y=y1*4294967296+y0) (h1:0<y1) (h0:0≤y0) (hr:q*y1+r=A) (h:q*y0≤4294967296*r+b):q≤(A*4294967296+b)/Y:=by
 refine Kt (by omega) ?_
 rw[hYe,AY]
 omega
theorem Ez {A b Y y1 y0 q r:Int} (hYe:Y=y1*4294967296+y0) (h1:0<y1) (h0:0≤y0) (hr:q*y1+r=A) (h:4294967296*r+b<q*y0):(A*4294967296+b)/Y<q:=by
 refine UD (by omega) ?_
 rw[hYe,AY]
 omega
theorem Kw {A b Y y1 y0 q r:Int} (hYe:Y=y1*4294967296+y0) (h1:0<y1) (h0:0≤y0) (h02:y0<4294967296) (hb:0≤b) (hAY:A<Y) (hr:q*y1+r=A) (hq0:0≤q) (h:4294967296≤r):q≤(A*4294967296+b)/Y:=by
 have hq:q<4294967296:=by
  by_cases hq:q<4294967296
  ·exact hq
  ·have:=Int.mul_le_mul_of_nonneg_right (show 4294967296≤q by omega) (show 0≤y1 by omega)
   omega
 refine Kt (by omega) ?_
 rw[hYe,AY]
 have p1:=Int.mul_le_mul_of_nonneg_right (show q≤4294967296 by omega) h0
 omega
def m32 (a:Int):Int:=IntKind.u64.wrap (((BitVec.ofInt 64 a&&& BitVec.ofInt 64 4294967295).toNat:Nat):Int)
theorem qo {a:Int} (h1:0≤a) (h2:a<18446744073709551616):m32 a=a%4294967296:=by
 unfold m32
 obtain⟨n,rfl⟩:∃n:Nat,a=n:=⟨a.toNat,by omega⟩
 have e:(BitVec.ofInt 64 (n:Int)&&& BitVec.ofInt 64 4294967295).toNat=n%4294967296:=by
  rw[BitVec.toNat_and]
  have h3:(BitVec.ofInt 64 (n:Int)).toNat=n:=by
   rw[BitVec.toNat_ofInt]
   omega
  have h4:(BitVec.ofInt 64 4294967295).toNat=2 ^ 32-1:=by decide
  rw[h3,h4,Nat.and_two_pow_sub_one_eq_mod]
 rw[e,dK (by omega) (by omega)]
 omega
theorem EA (k:IntKind) (hk:k= .u64) (a:Int):bC .shr k a 32=some (.v (.int k (a/4294967296))):=by
 subst hk
 rw[Dr _ _ _ (by decide)]
 have:(2:Int) ^ min (32:Int).toNat IntKind.u64.bits=4294967296:=by decide
 rw[this,Int.fdiv_eq_ediv_of_nonneg _ (by decide)]
theorem Ky (n:Int):0≤IntKind.u64.wrap n∧IntKind.u64.wrap n<18446744073709551616:=by rw[IntKind.wrap_u64];omega
theorem UE (x y:Int) (h1:0≤x) (h2:x<18446744073709551616) (h3:0≤y) (h4:y<18446744073709551616):Fun Tryz.prog 200 [u64 x,u64 y] (.tup [u64 (x*y/18446744073709551616),u64 (x*y%18446744073709551616)]):=by
 have sh:=fun a=>EA .u64 rfl a
 have a1:=qo h1 h2
 have a2:=qo h3 h4
 have ma:=mul64_arith x y h1 h2 h3 h4
 refine af Tryz.func200 fun cx hN hR hF hL=> ?_
 refine' run sh (l1 ?_)
 show IntKind.u64.wrap (IntKind.u64.wrap (IntKind.u64.wrap (x/4294967296*(y/4294967296))+IntKind.u64.wrap (IntKind.u64.wrap (x/4294967296*m32 y)+IntKind.u64.wrap (m32 x*m32 y)/4294967296)/4294967296)+IntKind.u64.wrap (m32 (IntKind.u64.wrap (IntKind.u64.wrap (x/4294967296*m32 y)+IntKind.u64.wrap (m32 x*m32 y)/4294967296))+IntKind.u64.wrap (m32 x*(y/4294967296)))/4294967296)=x*y/18446744073709551616∧IntKind.u64.wrap (x*y)=x*y%18446744073709551616
 rw[a1,a2]
 rw[qo (Ky _).1 (Ky _).2]
 simp only[IntKind.wrap_u64]
 exact⟨ma,trivial⟩
theorem or_hi {a:Int} {s:Nat} {L:Int} (hs:s≤63) (ha:0≤a) (hL:0≤L) (hL2:L<2 ^ s) (hm:a*2 ^ s+L<18446744073709551616):bC .or .u64 (a*2 ^ s) L=some (u64 (a*2 ^ s+L)):=by
 obtain⟨n,rfl⟩:∃n:Nat,a=n:=⟨a.toNat,by omega⟩
 obtain⟨l,rfl⟩:∃l:Nat,L=l:=⟨L.toNat,by omega⟩
 have e0:(n:Int)*2 ^ s=((n*2 ^ s:Nat):Int):=by simp
 have l0:l<2 ^ s:=by
  have:((l:Nat):Int)<((2 ^ s:Nat):Int):=by simpa using hL2
  omega
 rw[e0] at hm ⊢
 have hn:n*2 ^ s+l<18446744073709551616:=by omega
 have b1:(BitVec.ofInt 64 ((n*2 ^ s:Nat):Int)).toNat=n*2 ^ s:=by rw[BitVec.toNat_ofInt];omega
 have b2:(BitVec.ofInt 64 (l:Int)).toNat=l:=by rw[BitVec.toNat_ofInt];omega
 have e:(BitVec.ofInt 64 ((n*2 ^ s:Nat):Int)|||BitVec.ofInt 64 (l:Int)).toNat=n*2 ^ s+l:=by
  rw[BitVec.toNat_or,b1,b2,Nat.mul_comm,Nat.two_pow_add_eq_or_of_lt l0]
 have:bC .or .u64 ((n*2 ^ s:Nat):Int) (l:Int)=some (u64 (IntKind.u64.wrap ((BitVec.ofInt 64 ((n*2 ^ s:Nat):Int)|||BitVec.ofInt 64 (l:Int)).toNat:Nat))):=rfl
 rw[this,e,dK (by omega) (by omega)]
 congr 3
theorem UF {s:Nat} (hs:s≤63) (a:Int):bC .shl .u64 a (s:Int)=some (u64 (IntKind.u64.wrap (a*2 ^ s))):=by
 have:bC .shl .u64 a (s:Int)=some (u64 (IntKind.u64.wrap (a*2 ^ min ((s:Int)).toNat 64))):=by
  unfold bC
  simp only
  rw[if_neg (by omega)]
  rfl
 rw[this,Int.toNat_natCast,Nat.min_eq_left (by omega)]
theorem Kz {s:Nat} (hs:s≤64) (a:Int):bC .shr .u64 a (s:Int)=some (u64 (a/2 ^ s)):=by
 rw[Dr _ _ _ (by omega),Int.toNat_natCast,show IntKind.u64.bits=64 from rfl,Nat.min_eq_left (by omega)]
 rw[Int.fdiv_eq_ediv_of_nonneg _ (Int.pow_nonneg (by decide))]
theorem UG {N P y Y A u1 u0 R:Int} (hy:0<y) (hP:0<P) (hY:Y=y*P) (hN:N*P=(A*4294967296+u1)*4294967296+u0) (hR:R=(A*4294967296+u1)%Y):
 (A*4294967296+u1)/Y*4294967296+(R*4294967296+u0)/Y=N/y∧(R*4294967296+u0)%Y/P=N%y:=by
 have hYp:0<Y:=by rw[hY];exact Int.mul_pos hy hP
 have d1:=Int.mul_ediv_add_emod (A*4294967296+u1) Y
 have d2:=Int.mul_ediv_add_emod (R*4294967296+u0) Y
 have m2:=Int.emod_nonneg (R*4294967296+u0) (show Y≠0 by omega)
 have m3:=Int.emod_lt_of_pos (R*4294967296+u0) hYp
 rw[←hR] at d1
 generalize (A*4294967296+u1)/Y=Q1 at *
 generalize (R*4294967296+u0)/Y=Q0 at *
 generalize (R*4294967296+u0)%Y=R0 at *
 have e:N*P=(Q1*4294967296+Q0)*y*P+R0:=by
  rw[hN,←d1]
  subst hY
  grind
 have e2:R0=(N-(Q1*4294967296+Q0)*y)*P:=by rw[Int.sub_mul];omega
 have e3:R0/P=N-(Q1*4294967296+Q0)*y:=by rw[e2];exact Int.mul_ediv_cancel _ (by omega)
 rw[e3]
 have b1:0≤N-(Q1*4294967296+Q0)*y:=by rw[←e3];exact Int.ediv_nonneg m2 (by omega)
 have b2:N-(Q1*4294967296+Q0)*y<y:=by
  rw[←e3,Int.ediv_lt_iff_lt_mul hP,←hY];exact m3
 generalize hQ:Q1*4294967296+Q0=Q at *
 have h1:N/y=Q:=by
  have:N=(N-Q*y)+Q*y:=by omega
  rw[this,Int.add_mul_ediv_right _ _ (by omega),Int.ediv_eq_zero_of_lt b1 b2]
  omega
 refine⟨h1.symm,?_⟩
 have:=Int.mul_ediv_add_emod N y
 rw[h1,Int.mul_comm] at this
 omega
theorem KA {a b c R:Int} (h:a+b-c=R) (h0:0≤R) (h1:R<18446744073709551616):IntKind.u64.wrap (IntKind.u64.wrap (IntKind.u64.wrap a+b)-IntKind.u64.wrap c)=R:=by
 simp only[IntKind.wrap_u64]
 omega
attribute [local go_sem] decide_false in
theorem UH (hi lo y:Int) (h1:0<hi) (h2:hi<y) (h3:y<18446744073709551616) (h4:0≤lo) (h5:lo<18446744073709551616):Fun Tryz.prog 201 [u64 hi,u64 lo,u64 y] (.tup [u64 ((hi*18446744073709551616+lo)/y),u64 ((hi*18446744073709551616+lo)%y)]):=by
 obtain⟨s,s1,s2,s3,k⟩:=UC y (by omega) (by omega)
 have hP:(0:Int)<2 ^ s:=Int.pow_pos (by decide)
 have shl:=fun a=>UF s1 a
 have shr:=fun a=>Kz (show s≤64 by omega) a
 have shr2:=fun a=>Kz (show 64-s≤64 by omega) a
 have sh32:=fun a=>EA .u64 rfl a
 have hM:(2:Int) ^ s*2 ^ (64-s)=18446744073709551616:=by rw[←Int.pow_add,show s+(64-s)=64 by omega];decide
 have orr:=fun(L:Int) (hL:0≤L) (hL2:L<2 ^ s) (hm:hi*2 ^ s+L<18446744073709551616)=>or_hi (a:=hi) s1 (by omega) hL hL2 hm
 have hHP:hi*2 ^ s+2 ^ s≤y*2 ^ s:=by
  have:=Int.mul_le_mul_of_nonneg_right (show hi+1≤y by omega) (Int.le_of_lt hP)
  rw[Int.add_mul] at this;omega
 have hL0:0≤lo/2 ^ (64-s):=Int.ediv_nonneg h4 (Int.pow_nonneg (by decide))
 have hL1:lo/2 ^ (64-s)<2 ^ s:=by
  rw[Int.ediv_lt_iff_lt_mul (Int.pow_pos (by decide)),hM];exact h5
 have hLe:lo/2 ^ (64-s)=lo*2 ^ s/18446744073709551616:=by
  rw[←hM,Int.mul_comm lo,Int.mul_ediv_mul_of_pos _ _ hP]
 have orr:=orr _ hL0 hL1 (by omega)
 have ws:IntKind.u64.wrap (s:Int)=s:=dK (by omega) (by omega)
 have ws2:IntKind.u64.wrap (64-(s:Int))=((64-s:Nat):Int):=by rw[dK (by omega) (by omega)];omega
 have wy:IntKind.u64.wrap (y*2 ^ s)=y*2 ^ s:=dK (by omega) (by omega)
 have wh:IntKind.u64.wrap (hi*2 ^ s)=hi*2 ^ s:=dK (Int.mul_nonneg (by omega) (by omega)) (by omega)
 have wl:IntKind.u64.wrap (lo*2 ^ s)=lo*2 ^ s%18446744073709551616:=by rw[IntKind.wrap_u64]
 have hA0:0≤hi*2 ^ s+lo/2 ^ (64-s):=by have:=Int.mul_nonneg (show 0≤hi by omega) (Int.le_of_lt hP);omega
 have hAY:hi*2 ^ s+lo/2 ^ (64-s)<y*2 ^ s:=by omega
 have hNN:(hi*18446744073709551616+lo)*2 ^ s=((hi*2 ^ s+lo/2 ^ (64-s))*4294967296+lo*2 ^ s%18446744073709551616/4294967296)*4294967296+lo*2 ^ s%18446744073709551616%4294967296:=by
  rw[hLe]
  have e:(hi*18446744073709551616+lo)*2 ^ s=hi*2 ^ s*18446744073709551616+lo*2 ^ s:=by grind
  rw[e]
  generalize hi*2 ^ s=a
  generalize lo*2 ^ s=c
  omega
 have u1a:0≤lo*2 ^ s%18446744073709551616∧lo*2 ^ s%18446744073709551616<18446744073709551616:=by omega
 generalize hA:hi*2 ^ s+lo/2 ^ (64-s)=A at *
 generalize hU:lo*2 ^ s%18446744073709551616=U at *
 generalize hY:y*2 ^ s=Y at *
 have an1:=qo (a:=Y) (by omega) (by omega)
 have an2:=qo (a:=U) (by omega) (by omega)
 have hz:(y=0)=False:=eF
 have hle:(y≤hi)=False:=eF
 have hz0:(hi=0)=False:=eF
 have hy1:(Y/4294967296=0)=False:=eF
 have td:IntKind.u64.wrap (A.tdiv (Y/4294967296))=A/(Y/4294967296):=by
  have g2:=Int.ediv_le_self (Y/4294967296) hA0
  rw[Int.tdiv_eq_ediv_of_nonneg hA0,dK (Int.ediv_nonneg hA0 (by omega)) (by omega)]
 have wr:IntKind.u64.wrap (A-IntKind.u64.wrap (A/(Y/4294967296)*(Y/4294967296)))=A%(Y/4294967296):=by
  have d:=Int.mul_ediv_add_emod A (Y/4294967296)
  rw[Int.mul_comm] at d
  have m1:=Int.emod_nonneg A (show Y/4294967296≠0 by omega)
  have m2:=Int.emod_lt_of_pos A (show 0<Y/4294967296 by omega)
  simp only[IntKind.wrap_u64]
  omega
 refine af Tryz.func201 fun cx hN hR hF hL=> ?_
 have hY1:Y=Y/4294967296*4294967296+Y%4294967296:=by omega
 have hyp:0<Y/4294967296∧Y/4294967296<4294967296:=by omega
 have hy0:0≤Y%4294967296∧Y%4294967296<4294967296:=by omega
 have hb1:0≤U/4294967296∧U/4294967296<4294967296:=by omega
 have hb0:0≤U%4294967296∧U%4294967296<4294967296:=by omega
 have two:=UG (N:=hi*18446744073709551616+lo) (P:=2 ^ s) (y:=y) (Y:=Y) (A:=A) (u1:=U/4294967296) (u0:=U%4294967296) (by omega) hP hY.symm hNN rfl
 refine' aj (I shl (I shr (I shr2 (I sh32 (I orr (I ws (I ws2 (I wy (I wh (I wl (I hA (I hY (I hz (I hle (I hz0 (I hy1 (I td wr))))))))))))))))) k (lv (fun hq=>fun hq=>fun hq=>lf ?_) tt)
 generalize hQ:(A*4294967296+U/4294967296)/Y=Q at *
 have hQb:=Kr (A:=A) (b:=U/4294967296) (Y:=Y) hA0 hAY hb1.1 hb1.2
 rw[hQ] at hQb
 have hR0:=Int.emod_nonneg (A*4294967296+U/4294967296) (show Y≠0 by omega)
 have hRY:=Int.emod_lt_of_pos (A*4294967296+U/4294967296) (show 0<Y by omega)
 have hRd:=Int.mul_ediv_add_emod (A*4294967296+U/4294967296) Y
 rw[hQ,Int.mul_comm] at hRd
 generalize (A*4294967296+U/4294967296)%Y=R at *
 have rr:=KA (a:=A*4294967296) (b:=U/4294967296) (c:=Q*Y) (R:=R) (by omega) hR0 (by omega)
 have td2:IntKind.u64.wrap (R.tdiv (Y/4294967296))=R/(Y/4294967296):=by
  have g2:=Int.ediv_le_self (Y/4294967296) hR0
  rw[Int.tdiv_eq_ediv_of_nonneg hR0,dK (Int.ediv_nonneg hR0 (by omega)) (by omega)]
 have wr2:IntKind.u64.wrap (R-IntKind.u64.wrap (R/(Y/4294967296)*(Y/4294967296)))=R%(Y/4294967296):=by
  have d:=Int.mul_ediv_add_emod R (Y/4294967296)
  rw[Int.mul_comm] at d
  have m1:=Int.emod_nonneg R (show Y/4294967296≠0 by omega)
  have m2:=Int.emod_lt_of_pos R (show 0<Y/4294967296 by omega)
  simp only[IntKind.wrap_u64]
  omega
 refine aX (σ:={p:Int×Int // p.1*(Y/4294967296)+p.2=A∧Q≤p.1∧0≤p.2∧p.2<4294967296}) (fun p=>⟨[(15,u64 p.1.1),(16,u64 p.1.2),(9,u64 (Y/4294967296)),(10,u64 (Y%4294967296)),(13,u64 (U/4294967296)),(2,u64 Y),(8,u64 s),(11,u64 A),(14,u64 (U%4294967296)),(6,u64 0),(7,u64 0)],[],40000⟩) (fun p=>p.1.1.toNat) id ⟨(A/(Y/4294967296),A%(Y/4294967296)),?_,?_,?_,?_⟩ ?_ ?_
 ·have:=Int.mul_ediv_add_emod A (Y/4294967296)
  rw[Int.mul_comm] at this
  exact this
 ·rw[←hQ]
  exact Ku hY1 hyp.1 hy0.1 hA0 hb1.1 hb1.2
 ·exact Int.emod_nonneg _ (by omega)
 ·have:=Int.emod_lt_of_pos A hyp.1
  show A%(Y/4294967296)<4294967296
  omega
 ·simp only[go_sem,↓reduceIte,hF]
  exact⟨an1,an2⟩
 ·rintro⟨⟨q,r⟩,g1,g2,g3,g4⟩
  simp only at g1 g2 g3 g4 ⊢
  have hqA:q≤A:=by
   have:=Int.mul_le_mul_of_nonneg_left (show 1≤Y/4294967296 by omega) (show 0≤q by omega)
   omega
  have hy0q:=Int.mul_nonneg (show 0≤q by omega) hy0.1
  have w2:IntKind.u64.wrap (r+Y/4294967296)=r+Y/4294967296:=dK (by omega) (by omega)
  have w3:IntKind.u64.wrap (4294967296*r)=4294967296*r:=dK (by omega) (by omega)
  have w4:IntKind.u64.wrap (4294967296*r+U/4294967296)=4294967296*r+U/4294967296:=dK (by omega) (by omega)
  have w5:q<4294967296→IntKind.u64.wrap (q*(Y%4294967296))=q*(Y%4294967296):=fun h=>by
   have:=Int.mul_le_mul (show q≤4294967295 by omega) (show Y%4294967296≤4294967295 by omega) hy0.1 (by omega)
   exact dK hy0q (by omega)
  obtain hFF|hB|hC:(q<4294967296∧q*(Y%4294967296)≤4294967296*r+U/4294967296)∨(¬(q<4294967296∧q*(Y%4294967296)≤4294967296*r+U/4294967296)∧4294967296≤r+Y/4294967296)∨(¬(q<4294967296∧q*(Y%4294967296)≤4294967296*r+U/4294967296)∧¬4294967296≤r+Y/4294967296):=by omega
  rotate_left 2
  ·have hqQ:Q<q:=by
    by_cases hb:q<4294967296
    ·have:=Ez hY1 hyp.1 hy0.1 (b:=U/4294967296) g1 (by omega)
     omega
    ·omega
   have hc:(decide (4294967296≤q)||decide (4294967296*r+U/4294967296<IntKind.u64.wrap (q*(Y%4294967296))))=true:=by
    by_cases hb:q<4294967296
    ·rw[w5 hb];simp;omega
    ·simp;omega
   have wd:IntKind.u64.wrap (q-1)=q-1:=dK (by omega) (by omega)
   refine' run (I shl (I shr (I shr2 (I sh32 (I w2 (I w3 (I w4 (I hc (I hC.2 wd))))))))) (lv (fun hq=>fun hq=>lf ?_) tt)
   refine⟨⟨(q-1,r+Y/4294967296),?_,by show Q≤q-1;omega,by show 0≤r+Y/4294967296;omega,mS⟩,id,?_,mS⟩
   ·show(q-1)*(Y/4294967296)+(r+Y/4294967296)=A
    rw[Int.sub_mul];omega
   ·simp only[go_sem,↓reduceIte,hF]
  all_goals
   first
    |(have hh:=hFF
      have hqQ:Q=q:=by
       have:=Kv hY1 hyp.1 hy0.1 (b:=U/4294967296) g1 hFF.2
       omega
      have hc:(decide (4294967296≤q)||decide (4294967296*r+U/4294967296<IntKind.u64.wrap (q*(Y%4294967296))))=false:=by
       rw[w5 hFF.1];simp;omega
      subst hqQ
      refine' run (I shl (I shr (I shr2 (I sh32 (I w2 (I w3 (I w4 (I hc (I rr (I td2 (I wr2 hy1))))))))))) (l3 fun hq=> ?_))
    |(have hh:=hB
      have hqQ:q=Q+1:=by
       have h6:Q<q:=by
        by_cases hb:q<4294967296
        ·have:=Ez hY1 hyp.1 hy0.1 (b:=U/4294967296) g1 (by omega)
         omega
        ·omega
       have:=Kw (q:=q-1) (r:=r+Y/4294967296) hY1 hyp.1 hy0.1 hy0.2 hb1.1 hAY (by rw[Int.sub_mul];omega) (by omega) hB.2
       omega
      have hc:(decide (4294967296≤q)||decide (4294967296*r+U/4294967296<IntKind.u64.wrap (q*(Y%4294967296))))=true:=by
       by_cases hb:q<4294967296
       ·rw[w5 hb];simp;omega
       ·simp;omega
      subst hqQ
      have wd:IntKind.u64.wrap (Q+1-1)=Q:=by rw[Int.add_sub_cancel];exact dK (by omega) (by omega)
      refine' run (I shl (I shr (I shr2 (I sh32 (I w2 (I w3 (I w4 (I hc (I hB.2 (I wd (I rr (I td2 (I wr2 hy1))))))))))))) (lv (fun hq=>fun hq=>lf ?_) tt))
  all_goals
   have hQ2b:=Kr (A:=R) (b:=U%4294967296) (Y:=Y) hR0 hRY hb0.1 hb0.2
   generalize hQ2:(R*4294967296+U%4294967296)/Y=Q2 at *
   have hS0:=Int.emod_nonneg (R*4294967296+U%4294967296) (show Y≠0 by omega)
   have hSY:=Int.emod_lt_of_pos (R*4294967296+U%4294967296) (show 0<Y by omega)
   have hSd:=Int.mul_ediv_add_emod (R*4294967296+U%4294967296) Y
   rw[hQ2,Int.mul_comm] at hSd
   generalize (R*4294967296+U%4294967296)%Y=S at *
   have rs:=KA (a:=R*4294967296) (b:=U%4294967296) (c:=Q2*Y) (R:=S) (by omega) hS0 (by omega)
   have f1:IntKind.u64.wrap (IntKind.u64.wrap (Q*4294967296)+Q2)=Q*4294967296+Q2:=by
    rw[dK (n:=Q*4294967296) (by omega) (by omega),dK (by omega) (by omega)]
   refine aX (σ:={p:Int×Int // p.1*(Y/4294967296)+p.2=R∧Q2≤p.1∧0≤p.2∧p.2<4294967296}) (fun p=>⟨[(18,u64 p.1.1),(16,u64 p.1.2),(9,u64 (Y/4294967296)),(10,u64 (Y%4294967296)),(14,u64 (U%4294967296)),(2,u64 Y),(8,u64 s),(15,u64 Q),(17,u64 R),(6,u64 0),(7,u64 0)],[],90000⟩) (fun p=>p.1.1.toNat) id ⟨(R/(Y/4294967296),R%(Y/4294967296)),?_,?_,?_,?_⟩ ?_ ?_
   ·have:=Int.mul_ediv_add_emod R (Y/4294967296)
    rw[Int.mul_comm] at this
    exact this
   ·rw[←hQ2]
    exact Ku hY1 hyp.1 hy0.1 hR0 hb0.1 hb0.2
   ·exact Int.emod_nonneg _ (by omega)
   ·have:=Int.emod_lt_of_pos R hyp.1
    show R%(Y/4294967296)<4294967296
    omega
   ·simp only[go_sem,↓reduceIte,hF]
   ·clear hh g1 g2 g3 g4 hqA hy0q w2 w3 w4 w5 hc
    rintro⟨⟨q,r⟩,g1,g2,g3,g4⟩
    simp only at g1 g2 g3 g4 ⊢
    have hqA:q≤R:=by
     have:=Int.mul_le_mul_of_nonneg_left (show 1≤Y/4294967296 by omega) (show 0≤q by omega)
     omega
    have hy0q:=Int.mul_nonneg (show 0≤q by omega) hy0.1
    have w2:IntKind.u64.wrap (r+Y/4294967296)=r+Y/4294967296:=dK (by omega) (by omega)
    have w3:IntKind.u64.wrap (4294967296*r)=4294967296*r:=dK (by omega) (by omega)
    have w4:IntKind.u64.wrap (4294967296*r+U%4294967296)=4294967296*r+U%4294967296:=dK (by omega) (by omega)
    have w5:q<4294967296→IntKind.u64.wrap (q*(Y%4294967296))=q*(Y%4294967296):=fun h=>by
     have:=Int.mul_le_mul (show q≤4294967295 by omega) (show Y%4294967296≤4294967295 by omega) hy0.1 (by omega)
     exact dK hy0q (by omega)
    by_cases hFF:q<4294967296∧q*(Y%4294967296)≤4294967296*r+U%4294967296
    ·have hqQ:Q2=q:=by
      have:=Kv hY1 hyp.1 hy0.1 (b:=U%4294967296) g1 hFF.2
      omega
     have hc:(decide (4294967296≤q)||decide (4294967296*r+U%4294967296<IntKind.u64.wrap (q*(Y%4294967296))))=false:=by
      rw[w5 hFF.1];simp;omega
     subst hqQ
     exact run (I shl (I shr (I w2 (I w3 (I w4 (I hc (I rs f1))))))) tt
     all_goals exact two
    ·have h6:Q2<q:=by
      by_cases hb:q<4294967296
      ·have:=Ez hY1 hyp.1 hy0.1 (b:=U%4294967296) g1 (by omega)
       omega
      ·omega
     have hc:(decide (4294967296≤q)||decide (4294967296*r+U%4294967296<IntKind.u64.wrap (q*(Y%4294967296))))=true:=by
      by_cases hb:q<4294967296
      ·rw[w5 hb];simp;omega
      ·simp;omega
     have wd:IntKind.u64.wrap (q-1)=q-1:=dK (by omega) (by omega)
     by_cases hB:4294967296≤r+Y/4294967296
     ·have hqQ:q=Q2+1:=by
       have:=Kw (q:=q-1) (r:=r+Y/4294967296) hY1 hyp.1 hy0.1 hy0.2 hb0.1 hRY (by rw[Int.sub_mul];omega) (by omega) hB
       omega
      subst hqQ
      have wd2:IntKind.u64.wrap (Q2+1-1)=Q2:=by rw[Int.add_sub_cancel];exact dK (by omega) (by omega)
      exact run (I shl (I shr (I w2 (I w3 (I w4 (I hc (I hB (I wd2 (I rs f1))))))))) tt
      all_goals exact two
     ·refine' run (I shl (I shr (I w2 (I w3 (I w4 (I hc (I hB wd))))))) (lv (fun hq=>fun hq=>lf ?_) tt)
      refine⟨⟨(q-1,r+Y/4294967296),?_,by show Q2≤q-1;omega,by show 0≤r+Y/4294967296;omega,mS⟩,id,?_,mS⟩
      ·show(q-1)*(Y/4294967296)+(r+Y/4294967296)=R
       rw[Int.sub_mul];omega
      ·simp only[go_sem,↓reduceIte,hF]
attribute [local go_sem] decide_false in
theorem UI (lo d:Int) (h1:0≤lo) (h2:lo<18446744073709551616) (h3:0<d):Fun Tryz.prog 201 [u64 0,u64 lo,u64 d] (.tup [u64 (lo/d),u64 (lo%d)]):=by
 have hz:(d=0)=False:=eF
 have hz2:¬d=0:=by omega
 have hle:(d≤0)=False:=eF
 have q1:lo.tdiv d=lo/d:=Int.tdiv_eq_ediv_of_nonneg h1
 have q2:lo.tmod d=lo%d:=Int.tmod_eq_emod_of_nonneg h1
 have g1:0≤lo/d:=Int.ediv_nonneg h1 (by omega)
 have g2:lo/d≤lo:=Int.ediv_le_self _ h1
 have w:IntKind.u64.wrap (lo/d)=lo/d:=dK g1 (by omega)
 refine af Tryz.func201 fun cx hN hR hF hL=> ?_
 exact run (I hz (I hle (I q1 (I q2 w)))) tt
theorem UJ (hi lo y:Int) (h1:0≤hi) (h2:hi<y) (h3:y<18446744073709551616) (h4:0≤lo) (h5:lo<18446744073709551616):Fun Tryz.prog 201 [u64 hi,u64 lo,u64 y] (.tup [u64 ((hi*18446744073709551616+lo)/y),u64 ((hi*18446744073709551616+lo)%y)]):=by
 by_cases h:hi=0
 ·subst h
  have:=UI lo y h4 h5 (by omega)
  simpa using this
 ·exact UH hi lo y (by omega) h2 h3 h4 h5
def xY (q r c:Int):Int:=if r>c-r∨(r=c-r∧q%2=1) then q+1 else q
theorem UK (q r c:Int) (h1:0≤q) (h2:0≤r) (h3:r<c) (h4:c≤9223372036854775807):Fun Tryz.prog 199 [u64 q,u64 r,u64 c] (bool (decide (r>c-r)||(decide (r=c-r)&&decide (q%2=1)))):=by
 have w:IntKind.u64.wrap (c-r)=c-r:=dK (by omega) (by omega)
 have q2:q.tmod 2=q%2:=Int.tmod_eq_emod_of_nonneg h1
 refine af Tryz.func199 fun cx hN hR hF hL=> ?_
 have rr:bC .rem .u64 q 2=some (.v (.int .u64 (q%2))):=by rw[Iq _ _ _ (by decide),q2]
 refine' run (I w rr) (l4 fun K hK=> ?_)
 all_goals exact fun h _=>h
theorem EB:Fun Tryz.prog 170 [] (.agg [.v (.func (.func 199) #[] #[])]):=by
 refine af Tryz.func170 fun cx hN hR hF hL=> ?_
 exact run tt tt
def uR (a b c:Int):Int:=xY (a*b/c) (a*b%c) c
def l7 (a b c:Int):Int:=if 4000000000000000000<uR a b c then 0 else uR a b c
def l8 (a b c:Int):Int:=if 4000000000000000000<uR a b c then 5 else 0
theorem EC (q r c:Int):q≤xY q r c∧xY q r c≤q+1:=by unfold xY;split<;>omega
attribute [local go_sem] decide_false in
theorem UL (a b c:Int) (ha:0≤a) (ha2:a≤9223372036854775807) (hb:0≤b) (hb2:b≤9223372036854775807) (hc:0<c) (hc2:c≤9223372036854775807):
 Fun Tryz.prog 171 [.agg [.v (.func (.func 199) #[] #[])],int a,int b,int c] (.tup [int (l7 a b c),int (l8 a b c)]):=by
 have p0:0≤a*b:=Int.mul_nonneg ha hb
 have p1:a*b≤85070591730234615847396907784232501249:=by
  have:=Int.mul_le_mul ha2 hb2 hb (by omega)
  omega
 have g1:(a<0)=False:=eF
 have g2:(b<0)=False:=eF
 have g3:(c<0)=False:=eF
 have g4:(c=0)=False:=eF
 have c1:IntKind.u64.wrap a=a:=dK (by omega) (by omega)
 have c2:IntKind.u64.wrap b=b:=dK (by omega) (by omega)
 have c3:IntKind.u64.wrap c=c:=dK (by omega) (by omega)
 have k1:=UE a b ha (by omega) hb (by omega)
 unfold l7 l8 uR
 generalize a*b=x at *
 have hx0:0≤x/18446744073709551616:=by omega
 have hr:=EC (x/c) (x%c) c
 by_cases h:c≤x/18446744073709551616
 ·have hq:18446744073709551616≤x/c:=by
   rw[Int.le_ediv_iff_mul_le hc]
   omega
  rw[if_pos (by omega),if_pos (by omega)]
  refine af Tryz.func171 fun cx hN hR hF hL=> ?_
  exact aj (I g1 (I g2 (I g3 (I g4 (I c1 (I c2 (I c3 (I (eq_true h) (decide_eq_true h))))))))) k1 tt
 ·have hh:(c≤x/18446744073709551616)=False:=eq_false h
  have k2:=UJ (x/18446744073709551616) (x%18446744073709551616) c hx0 (by omega) (by omega) (by omega) (by omega)
  rw[show x/18446744073709551616*18446744073709551616+x%18446744073709551616=x by omega] at k2
  have r0:=Int.emod_nonneg x (show c≠0 by omega)
  have r1:=Int.emod_lt_of_pos x hc
  have q0:0≤x/c:=Int.ediv_nonneg p0 (by omega)
  have q1:x/c<18446744073709551616:=by
   rw[Int.ediv_lt_iff_lt_mul hc]
   omega
  have k3:=UK (x/c) (x%c) c q0 r0 r1 hc2
  unfold xY at *
  generalize x/c=q at *
  generalize x%c=r at *
  by_cases hq1:q>4000000000000000000
  ·rw[if_pos (by omega),if_pos (by omega)]
   refine af Tryz.func171 fun cx hN hR hF hL=> ?_
   exact aj (I g1 (I g2 (I g3 (I g4 (I c1 (I c2 (I c3 (I hh (I (eq_true hq1) (decide_eq_true hq1)))))))))) (I k1 k2) tt
  ·have f1:(q>4000000000000000000)=False:=eq_false hq1
   have w1:IntKind.u64.wrap (q+1)=q+1:=dK (by omega) (by omega)
   have w2:IntKind.i64.wrap q=q:=fq (by omega) (by omega)
   have w3:IntKind.i64.wrap (q+1)=q+1:=fq (by omega) (by omega)
   by_cases hu:r>c-r∨(r=c-r∧q%2=1)
   ·have hd:(decide (r>c-r)||(decide (r=c-r)&&decide (q%2=1)))=true:=by simpa using hu
    rw[hd] at k3
    simp only[if_pos hu]
    by_cases hq2:q+1>4000000000000000000
    ·rw[if_pos (by omega),if_pos (by omega)]
     refine af Tryz.func171 fun cx hN hR hF hL=> ?_
     exact aj (I g1 (I g2 (I g3 (I g4 (I c1 (I c2 (I c3 (I hh (I f1 (I w1 (I (eq_true hq2) (decide_eq_true hq2)))))))))))) (I k1 (I k2 k3)) tt
    ·rw[if_neg (by omega),if_neg (by omega)]
     refine af Tryz.func171 fun cx hN hR hF hL=> ?_
     exact aj (I g1 (I g2 (I g3 (I g4 (I c1 (I c2 (I c3 (I hh (I f1 (I w1 (I w3 (I (eq_false hq2) (decide_eq_false hq2))))))))))))) (I k1 (I k2 k3)) tt
   ·have hd:(decide (r>c-r)||(decide (r=c-r)&&decide (q%2=1)))=false:=by rw[Bool.eq_false_iff];simpa using hu
    rw[hd] at k3
    simp only[if_neg hu]
    rw[if_neg (by omega),if_neg (by omega)]
    refine af Tryz.func171 fun cx hN hR hF hL=> ?_
    exact aj (I g1 (I g2 (I g3 (I g4 (I c1 (I c2 (I c3 (I hh (I f1 w2))))))))) (I k1 (I k2 k3)) tt
theorem KC (a b c:Int) (ha:0≤a) (ha2:a≤9223372036854775807) (hb:0≤b) (hb2:b≤9223372036854775807) (hc:0<c) (hc2:c≤9223372036854775807):Fun Tryz.prog 132 [int a,int b,int c] (.tup [int (l7 a b c),int (l8 a b c)]):=by
 refine af Tryz.func132 fun cx hN hR hF hL=> ?_
 exact aj tt (I EB (UL a b c ha ha2 hb hb2 hc hc2)) tt
theorem KD (m bp:Int) (h1:0≤m) (h2:m≤9223372036854775807) (h3:0≤bp) (h4:bp≤9223372036854775807):Fun Tryz.prog 87 [int m,int bp] (.tup [int (l7 m bp 10000),int (l8 m bp 10000)]):=by
 have k:=KC m bp 10000 h1 h2 h3 h4 (by omega) (by omega)
 refine af Tryz.func87 fun cx hN hR hF hL=> ?_
 exact aj tt k tt
end Go.Proofs.YtlikpcpllahalaaGreat.V
