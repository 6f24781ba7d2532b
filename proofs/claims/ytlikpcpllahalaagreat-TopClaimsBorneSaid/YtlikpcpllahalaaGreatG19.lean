/- Parts of the proof. -/
import Derived.Test.YtlikpcpllahalaaGreatG15
import Derived.Lib.AppendZerosOnto
import Derived.Lib.AppendZeros
import Derived.Lib.Overlaps
import Derived.Lib.Walk
import Derived.Laws.CopyRow
import Derived.Laws.NewBlocks
import Derived.Laws.Externs
import Derived.Deep.RegionLaw
set_option linter.unusedSimpArgs false
set_option linter.unusedVariables false
namespace Go.Proofs.YtlikpcpllahalaaGreat.V
open Go.RowKit Go.Lib
set_option maxRecDepth 100000
theorem lD {P:Program} (w:World) (dT sT ty elem:TypeId) (k g o dLen dCap:Nat) (a:Addr) (sLen sCap:Nat) (cur:Array Value) (t:TypeId) (cs:List Value)
 (hu:P.underlying dT=some (.slice elem)) (hs:(P.info? elem).map (·.size)=some k) (hg:w.heap[g]? =some (.cells cur t (0,0))) (hn:cs.length=Nat.min sLen dLen*k)
 (hsrc:∀j v,cs[j]? =some v→w.cell? (a.add j)=some v) (hfit:o+cs.length≤cur.size) (h1:∀v∈cs,v.oneCell'=true):
 (Builtin.copy_ #[dT,sT] ty #[.slice (some ⟨g,o,none⟩) dLen dCap,.slice (some a) sLen sCap]).run P w=
   .ok (goInt (Nat.min sLen dLen)) (w.setRow g (cur.toList.take o++cs++cur.toList.drop (o+cs.length)).toArray):=by
 have hl:=run_loadCells_list (P:=P) w a cs hsrc
 have hst:=run_storeCells_at P g o t cs 0 cur w hg (by simpa using hfit) h1
 cases hq:P.info? elem with
 |none=>simp[hq] at hs
 |some i=>
  have hi:i.size=k:=by simpa[hq] using hs
  simp[Builtin.copy_,run_underlying hu,Builtin.lenOf,Builtin.firstCells,sizeOf,typeInfo,hq,hi,←hn,hl]
  simp at hst
  rw[hst]
  rfl
theorem Jt {P:Program} {w:World} {o:Oper} {a:Act} {K:Act→World→Prop} {Q:Exit→Act→World→Prop} {d s:Operand} {t t':TypeId} (ho:o.op= .call {callee:= .builtin .copy,args:= #[d,s],argTypes:= #[t,t']}) {v u:Value} (hd:a.eval d=v) (hs:a.eval s=u) {v':Value} {w':World}
 (hr:(Builtin.copy_ #[t,t'] o.type #[v,u]).run P w= .ok v' w') (h:K (a.put o.dst v') w'):o.wp P a w K Q:=by
 unfold Oper.wp execOp
 simp only[ho,resolve,invoke,builtin,Sem.run_bind,Sem.run_pure,Result.andThen_ok,List.map_toArray,List.map_cons,List.map_nil,hd,hs,hr]
 exact h
theorem uC {P:Program} {w:World} {ops:Array Oper} {rest:List Oper} {o:Oper} {a:Act} {Q:Exit→Act→World→Prop} (hgd:o.guard=none) {d s:Operand} {t t':TypeId} (ho:o.op= .call {callee:= .builtin .copy,args:= #[d,s],argTypes:= #[t,t']}) {v u:Value} (hd:a.eval d=v) (hs:a.eval s=u)
 {v':Value} {w':World} (hr:(Builtin.copy_ #[t,t'] o.type #[v,u]).run P w= .ok v' w') (h:wpList P ops Q rest (a.put o.dst v') w'):wpList P ops Q (o::rest) a w:=
 wpList_plain hgd fun _ hK=>Jt ho hd hs hr (hK _ _ h)
theorem uD {P:Program} {ops:Array Oper} {o:Oper} {a:Act} {w:World} {K:Act→World→Prop} {Q:Exit→Act→World→Prop} {E:Prop} (hg:o.guard=none) {d s:Operand} {t t':TypeId} (ho:o.op= .call {callee:= .builtin .copy,args:= #[d,s],argTypes:= #[t,t']}) {v u:Value} (hd:a.eval d=v) (hs:a.eval s=u)
 {v':Value} {w':World} (hr:(Builtin.copy_ #[t,t'] o.type #[v,u]).run P w= .ok v' w') (hK:K (a.put o.dst v') w'):if Region.wanted o (yielded ops a.tmps)=true then Oper.wp P o a w K Q else E:=by
 have hw:Region.wanted o (yielded ops a.tmps)=true:=by simp[Region.wanted,hg]
 rw[if_pos hw]
 exact Jt ho hd hs hr hK
theorem uE {w w':World} {c:Array Value} {t:TypeId} {fr:Nat×Nat} (h:w'.heap=w.heap.push (.cells c t fr)) (c':Array Value):(w'.setRow w.heap.size c').heap=w.heap.push (.cells c' t fr):=by
 apply Array.ext_getElem?
 intro j
 by_cases hj:j=w.heap.size
 ·subst hj
  rw[setRow_heap _ _ c c' t fr (by rw[h];simp)]
  simp
 ·rw[setRow_other _ _ _ _ hj,h,Array.getElem?_push,Array.getElem?_push,if_neg hj,if_neg hj]
theorem Ec {w w':World} (h:w'.heap=w.heap) {b:Nat} {c:Array Value} {t:TypeId} {fr:Nat×Nat} (hg:w.heap[b]? =some (.cells c t fr)) (c1 c2:Array Value):((w'.setRow b c1).setRow b c2).heap=(w.setRow b c2).heap:=by
 apply Array.ext_getElem?
 intro j
 by_cases hj:j=b
 ·subst hj
  rw[setRow_heap _ _ c1 c2 t fr (setRow_heap _ _ c c1 t fr (by rw[h];exact hg)),setRow_heap _ _ c c2 t fr hg]
 ·rw[setRow_other _ _ _ _ hj,setRow_other _ _ _ _ hj,setRow_other _ _ _ _ hj,h]
theorem jf (g o j:Nat):(⟨g,o,none⟩:Addr).add j=⟨g,o+j,none⟩:=by unfold Addr.add;split<;>simp_all
set_option maxHeartbeats 4000000 in
theorem SQ (b n c i vb vc:Nat) (cs vs:List Value) (w:World) (hi:i<n) (hnc:n≤c) (hroom:c<n+1) (hbig:n≤100000) (hcl:cs.length=n*11) (hvl:vs.length=11)
 (hcs:∀j v,cs[j]? =some v→w.cell? ⟨b,j,none⟩=some v) (hvs:∀j v,vs[j]? =some v→w.cell? ⟨vb,j,none⟩=some v) (h1c:∀v∈cs,v.oneCell'=true) (h1v:∀v∈vs,v.oneCell'=true):
 Calls Tryz.prog 282 #[.slice (some ⟨b,0,none⟩) n c,.int .i64 i,.slice (some ⟨vb,0,none⟩) 1 vc] w fun e w'=>∃(C:Nat) (z:List Value),
  e= .returned (.slice (some ⟨w.heap.size,0,none⟩) (n+1) C)∧n+1≤C∧C≤maxLen∧(cs.take (i*11)++vs++cs.drop (i*11)++z).length=C*11∧
  w'.heap=w.heap.push (.cells (cs.take (i*11)++vs++cs.drop (i*11)++z).toArray 133 (0,0))∧w'.os=w.os∧w'.tape=w.tape∧w'.output=w.output:=by
 have hi0:Tryz.prog.info? 133=some ((Tryz.prog.info? 133).get aA):=(Option.some_get _).symm
 have hz0:((Tryz.prog.info? 133).get aA).zero=some (((Tryz.prog.info? 133).get aA).zero.get aA):=(Option.some_get _).symm
 have hz1:(((Tryz.prog.info? 133).get aA).zero.get aA).cells.size=11:=aA
 have hs1:((Tryz.prog.info? 133).get aA).size=11:=aA
 have hb8:((Tryz.prog.info? 133).get aA).bytes≤200:=by decide+kernel
 generalize ((Tryz.prog.info? 133).get aA).zero.get aA=Z at *
 generalize (Tryz.prog.info? 133).get aA=i0 at *
 have hsz:(Tryz.prog.info? 133).map (·.size)=some 11:=by rw[hi0];simp[hs1]
 have hik:i+(n+1-i)=n+1:=byOmega
 have hold:(Builtin.firstCells i0.size i (.slice (some ⟨b,0,none⟩) i c)).run Tryz.prog w.drew= .ok (cs.take (i*11)).toArray w.drew:=by
  rw[hs1]
  exact run_firstCells_some w.drew 11 i ⟨b,0,none⟩ i c (cs.take (i*11)) (by rw[List.length_take];omega) (fun j v hj=>by
   rw[jf,Nat.zero_add]
   rw[List.getElem?_take] at hj
   split at hj
   ·exact hcs j v hj
   ·cases hj)
 obtain⟨G,hG⟩:∃G,G=grownCap w (n+1) c 133:=⟨_,rfl⟩
 have hG1:n+1≤G:=by rw[hG];exact grownCap_ge w _ _ _
 have hG2:G≤maxLen:=by rw[hG];exact grownCap_le_maxLen w _ _ _ (by unfold maxLen;omega)
 have hfits:Builtin.nextslicecap (i+(n+1-i)) c*i0.bytes≤281474976710656:=by
  rw[hik]
  have h1:(n+1)*i0.bytes≤(n+1)*200:=Nat.mul_le_mul_left _ hb8
  exact growslice_fits hroom byOmega
 have h48:(n+1-i)*i0.bytes≤281474976710656:=by
  have h1:(n+1-i)*i0.bytes≤(n+1-i)*200:=Nat.mul_le_mul_left _ hb8
  omega
 have hrz:∀ty,(Builtin.append_ #[28,3] ty #[.slice (some ⟨b,0,none⟩) i c,.int .i64 ((n:Int)+1-(i:Int))]).run Tryz.prog w=
  .ok (.slice (some ⟨w.heap.size,0,none⟩) (n+1) G) (w.drew.alloc (.cells ((cs.take (i*11)).toArray++Builtin.zeroCells Z.cells (n+1-i)++Builtin.zeroCells Z.cells (G-(n+1))) 133)):=fun ty=>by
  have h:=Lib.run_append_grow_zeros w 28 3 ty 133 i0 Z .i64 .i64 Tryz.underlying28 Tryz.underlying3 hi0 hz0 (some ⟨b,0,none⟩) i c (cs.take (i*11)) hold (n+1-i) byOmega byOmega byOmega byOmega h48 hfits
  rw[hik,←hG] at h
  rw[show(n:Int)+1-(i:Int)=((n+1-i:Nat):Int) by omega]
  exact h
 obtain⟨ROW,hROW⟩:∃ROW:Array Value,ROW=(cs.take (i*11)).toArray++Builtin.zeroCells Z.cells (n+1-i)++Builtin.zeroCells Z.cells (G-(n+1)):=⟨_,rfl⟩
 have hzc:∀m,(Builtin.zeroCells Z.cells m).size=m*11:=fun m=>by simp[Builtin.zeroCells,hz1]
 have hRs:ROW.size=G*11:=by
  rw[hROW];simp only[Array.size_append,hzc,List.size_toArray,List.length_take,hcl]
  omega
 rw[←hROW] at hrz
 have hRt:ROW.toList.take (i*11)=cs.take (i*11):=by
  rw[hROW]
  simp only[Array.toList_append]
  rw[List.append_assoc,List.take_append_of_le_length (by simp;omega),List.take_of_length_le (by simp;omega)]
 have HR:=Lib.hid hRt
 have HS:=Lib.hid hRs
 clear hRt hRs hROW hG hzc hold h48 hfits hik
 have hcpA:∀(W:World),W.heap=w.heap.push (.cells ROW 133 (0,0))→∀ty dc,(Builtin.copy_ #[28,28] ty #[.slice (some ⟨w.heap.size,i*11,none⟩) (n+1-i) dc,.slice (some ⟨vb,0,none⟩) 1 vc]).run Tryz.prog W=
  .ok (goInt (Nat.min 1 (n+1-i))) (W.setRow w.heap.size (ROW.toList.take (i*11)++vs++ROW.toList.drop (i*11+vs.length)).toArray):=fun W hW ty dc=>by
  refine lD W _ _ ty 133 11 w.heap.size (i*11) (n+1-i) dc ⟨vb,0,none⟩ 1 vc ROW 133 vs Tryz.underlying28 hsz (by rw[hW];simp) (by rw[hvl,show Nat.min 1 (n+1-i)=1 from Nat.min_eq_left byOmega]) (fun j v hj=> ?_) (by have:=HS.out;omega) h1v
  rw[jf,Nat.zero_add]
  have h1:=hvs j v hj
  have h2:=block_lt_of_cell h1
  rw[World.cell?_of_block (w:=w) (by rw[hW,Array.getElem?_push_lt h2];exact(Array.getElem?_eq_getElem h2).symm)]
  exact h1
 obtain⟨R2,hR2⟩:∃R2,R2=(ROW.toList.take (i*11)++vs++ROW.toList.drop (i*11+vs.length)).toArray:=⟨_,rfl⟩
 rw[←hR2] at hcpA
 have hR2s:R2.size=G*11:=by rw[hR2];have:=HS.out;simp;omega
 have hR2t:R2.toList.take ((i+1)*11)=cs.take (i*11)++vs:=by
  rw[hR2,HR.out]
  simp only[List.append_assoc]
  rw[←List.append_assoc,List.take_append_of_le_length (by simp;omega),List.take_of_length_le (by simp;omega)]
 have HT:=Lib.hid hR2t
 have H2:=Lib.hid hR2s
 clear hR2t hR2s hR2
 have hcpB:∀(W:World),W.heap[w.heap.size]? =some (.cells R2 133 (0,0))→(∀g,g<w.heap.size→W.heap[g]? =w.heap[g]?)→∀ty dc sc,(Builtin.copy_ #[28,28] ty #[.slice (some ⟨w.heap.size,(i+1)*11,none⟩) (n+1-(i+1)) dc,.slice (some ⟨b,i*11,none⟩) (n-i) sc]).run Tryz.prog W=
  .ok (goInt (Nat.min (n-i) (n+1-(i+1)))) (W.setRow w.heap.size (R2.toList.take ((i+1)*11)++cs.drop (i*11)++R2.toList.drop ((i+1)*11+(cs.drop (i*11)).length)).toArray):=fun W hW hW2 ty dc sc=>by
  have hdl:(cs.drop (i*11)).length=(n-i)*11:=by rw[List.length_drop,hcl,Nat.sub_mul]
  refine lD W _ _ ty 133 11 w.heap.size ((i+1)*11) (n+1-(i+1)) dc ⟨b,i*11,none⟩ (n-i) sc R2 133 (cs.drop (i*11)) Tryz.underlying28 hsz hW (by rw[hdl,show Nat.min (n-i) (n+1-(i+1))=n-i from Nat.min_eq_left byOmega]) (fun j v hj=> ?_) (by have:=H2.out;rw[hdl];omega) (fun v hv=>h1c v (List.mem_of_mem_drop hv))
  rw[jf]
  rw[List.getElem?_drop] at hj
  have h1:=hcs _ v hj
  have h2:=block_lt_of_cell h1
  simp only at h2
  rw[World.cell?_of_block (w:=w) (hW2 _ h2)]
  exact h1
 have hw1:IntKind.i64.wrap ((i:Int)+1)=(i:Int)+1:=by rw[IntKind.wrap_i64];omega
 have hw2:IntKind.i64.wrap ((n:Int)+1)=(n:Int)+1:=by rw[IntKind.wrap_i64];omega
 have hw3:IntKind.i64.wrap ((n:Int)+1-(i:Int))=(n:Int)+1-(i:Int):=by rw[IntKind.wrap_i64];omega
 have z2:¬((i:Int)=(n:Int)):=byOmega
 have z3:(c:Int)<(n:Int)+1:=byOmega
 have z4:(i:Int)≤(n:Int):=byOmega
 have z5:(0:Int)≤(i:Int)+1:=byOmega
 have hin:i≤n:=byOmega
 have htn:((i:Int)+1).toNat=i+1:=byOmega
 have hci:¬(c=i):=byOmega
 have hGi:¬(G=i):=byOmega
 have hGim:¬(G=i+1):=byOmega
 go_enter Tryz.func282,Tryz.ntmps282
 go_wp2_with (first
  |(at_builtin;refine Lib.wpList_append_run _ rfl _ _ _ _ rfl _ _ rfl rfl _ _ (hrz _) ?_)
  |(refine uC rfl rfl rfl rfl (hcpA ((w.alloc (.cells ROW 133)).drew) rfl _ _) ?_))
 have hW1:(((w.alloc (.cells ROW 133)).drew.setRow w.heap.size R2).drew).heap[w.heap.size]? =some (.cells R2 133 (0,0)):=setRow_heap _ _ ROW _ _ _ (by show(w.heap.push _)[w.heap.size]? =_;simp)
 have hW2:∀g,g<w.heap.size→(((w.alloc (.cells ROW 133)).drew.setRow w.heap.size R2).drew).heap[g]? =w.heap[g]? :=fun g hg=>(setRow_other _ _ _ _ byOmega).trans (by show(w.heap.push _)[g]? =_;rw[Array.getElem?_push_lt hg];exact(Array.getElem?_eq_getElem hg).symm)
 go_region_law (refine uD rfl rfl (v:= .slice (some ⟨w.heap.size,(i+1)*11,none⟩) (n+1-(i+1)) (G-(i+1))) (u:= .slice (some ⟨b,i*11,none⟩) (n-i) (c-i)) (by simp[Act.eval,Act.put]) (by simp[Act.eval,Act.put]) (hcpB _ hW1 hW2 _ _ _) ?_)
 go_wp2
 go_ret
 refine⟨G,R2.toList.drop ((i+1)*11+(cs.drop (i*11)).length),rfl,hG1,hG2,?_,?_,rfl,rfl,rfl⟩
 ·have h1:=congrArg List.length HT.out
  have h2:=H2.out
  have h3:(cs.drop (i*11)).length=n*11-i*11:=by rw[List.length_drop,hcl]
  simp only[List.length_append,List.length_drop,Array.length_toList,List.length_take] at *
  omega
 ·rw[HT.out] at *
  refine(uE ((uE (w':=(w.alloc (.cells ROW 133)).drew) rfl R2):(((w.alloc (.cells ROW 133)).drew.setRow w.heap.size R2).drew).heap=_) _).trans ?_
  simp only[List.append_assoc,List.length_drop,hcl]
set_option maxHeartbeats 4000000 in
theorem SS (b n c i vb vc:Nat) (cs vs:List Value) (row:Array Value) (w:World) (hi:i<n) (hroom:n+1≤c) (hc63:c≤maxLen) (hvb:vb≠b) (hcl:cs.length=n*11) (hvl:vs.length=11) (hrow:row.toList.take (n*11)=cs) (hrs:row.size=c*11)
 (hg:w.heap[b]? =some (.cells row 133 (0,0))) (hvs:∀j v,vs[j]? =some v→w.cell? ⟨vb,j,none⟩=some v) (h1c:∀v∈cs,v.oneCell'=true) (h1v:∀v∈vs,v.oneCell'=true) (vrow:Array Value) (tv:TypeId) (hvg:w.heap[vb]? =some (.cells vrow tv (0,0))):
 Calls Tryz.prog 282 #[.slice (some ⟨b,0,none⟩) n c,.int .i64 i,.slice (some ⟨vb,0,none⟩) 1 vc] w fun e w'=>
  e= .returned (.slice (some ⟨b,0,none⟩) (n+1) c)∧w'.heap=(w.setRow b (cs.take (i*11)++vs++cs.drop (i*11)++row.toList.drop ((n+1)*11)).toArray).heap∧w'.os=w.os∧w'.tape=w.tape∧w'.output=w.output:=by
 have hi0:Tryz.prog.info? 133=some ((Tryz.prog.info? 133).get aA):=(Option.some_get _).symm
 have hs1:((Tryz.prog.info? 133).get aA).size=11:=aA
 generalize (Tryz.prog.info? 133).get aA=i0 at *
 have hsz:(Tryz.prog.info? 133).map (·.size)=some 11:=by rw[hi0];simp[hs1]
 have hov:∀la lb cb,(callFunc 284 #[.slice (some ⟨vb,0,none⟩) 1 la,.slice (some ⟨b,(i+1)*11,none⟩) lb cb]).run Tryz.prog w= .ok (.value (.bool false)) w:=fun la lb cb=>by
  rw[run_callFunc_extern Tryz.func284 aA aA aA (e:=Extern.SlicesOverlaps.overlaps #[28,28] #[4]) aA,
   Lib.run_overlaps_apart w 28 4 133 Tryz.underlying28 11 (fun w=>by simp[sizeOf,typeInfo,hi0,hs1]) ⟨vb,0,none⟩ ⟨b,(i+1)*11,none⟩ 1 la lb cb hvb tv 133 vrow.size row.size (by simp[World.shape?,hvg]) (by simp[World.shape?,hg]) (by have:(n+1)*11≤c*11:=Nat.mul_le_mul_right _ hroom;omega) (by simp[World.frozen?,hvg]) (by simp[World.frozen?,hvg])]
  rfl
 have hdl:(cs.drop (i*11)).length=(n-i)*11:=by rw[List.length_drop,hcl,Nat.sub_mul]
 have h5:(i+1)*11+(n-i)*11=(n+1)*11:=by rw[←Nat.add_mul];congr 1;omega
 have h6:(n+1)*11≤c*11:=Nat.mul_le_mul_right _ hroom
 have h7:i*11+11=(i+1)*11:=by rw[Nat.add_mul,Nat.one_mul]
 have h8:(i+1)*11≤n*11:=Nat.mul_le_mul_right _ hi
 have hcell:∀j v,cs[j]? =some v→row[j]? =some v:=fun j v h=>by
  rw[←hrow,List.getElem?_take] at h
  split at h
  ·rw[←Array.getElem?_toList];exact h
  ·cases h
 obtain⟨R1,hR1⟩:∃R1,R1=(row.toList.take ((i+1)*11)++cs.drop (i*11)++row.toList.drop ((i+1)*11+(cs.drop (i*11)).length)).toArray:=⟨_,rfl⟩
 have hcpA:∀(W:World),W.heap=w.heap→∀ty dc sc,(Builtin.copy_ #[28,28] ty #[.slice (some ⟨b,(i+1)*11,none⟩) (n+1-(i+1)) dc,.slice (some ⟨b,i*11,none⟩) (n+1-i) sc]).run Tryz.prog W=
  .ok (goInt (Nat.min (n+1-i) (n+1-(i+1)))) (W.setRow b R1):=fun W hW ty dc sc=>by
  rw[hR1]
  refine lD W _ _ ty 133 11 b ((i+1)*11) (n+1-(i+1)) dc ⟨b,i*11,none⟩ (n+1-i) sc row 133 (cs.drop (i*11)) Tryz.underlying28 hsz (by rw[hW];exact hg) (by rw[hdl,show Nat.min (n+1-i) (n+1-(i+1))=n-i from by simp only[Nat.min_def];split<;>omega]) (fun j v hj=> ?_) (by rw[hdl];omega) (fun v hv=>h1c v (List.mem_of_mem_drop hv))
  rw[jf]
  rw[List.getElem?_drop] at hj
  simp only[World.cell?,hW,hg]
  exact hcell _ v hj
 have hR1s:R1.size=c*11:=by rw[hR1];simp only[List.size_toArray,List.length_append,List.length_take,List.length_drop,Array.length_toList,hdl,hcl] at *;omega
 have hR1t:R1.toList.take (i*11)=cs.take (i*11):=by
  rw[hR1,←hrow]
  simp only[List.append_assoc]
  rw[List.take_append_of_le_length (by simp;omega),List.take_take,List.take_take]
  congr 1;omega
 have hR1d:R1.toList.drop (i*11+11)=cs.drop (i*11)++row.toList.drop ((n+1)*11):=by
  rw[h7,hR1]
  simp only[List.append_assoc]
  rw[List.drop_append_of_le_length (by simp;omega),List.drop_of_length_le (by simp;omega),List.nil_append,hdl,h5]
 have HD:=Lib.hid hR1d
 have HT:=Lib.hid hR1t
 have HS:=Lib.hid hR1s
 have HR:=Lib.hid hrow
 clear hR1d hR1t hR1s hR1 hrow hrs
 have hcpB:∀(W:World),W.heap[b]? =some (.cells R1 133 (0,0))→W.heap[vb]? =w.heap[vb]? →∀ty dc,(Builtin.copy_ #[28,28] ty #[.slice (some ⟨b,i*11,none⟩) (n+1-i) dc,.slice (some ⟨vb,0,none⟩) 1 vc]).run Tryz.prog W=
  .ok (goInt (Nat.min 1 (n+1-i))) (W.setRow b (R1.toList.take (i*11)++vs++R1.toList.drop (i*11+vs.length)).toArray):=fun W hW hW2 ty dc=>by
  refine lD W _ _ ty 133 11 b (i*11) (n+1-i) dc ⟨vb,0,none⟩ 1 vc R1 133 vs Tryz.underlying28 hsz hW (by rw[hvl,show Nat.min 1 (n+1-i)=1 from Nat.min_eq_left byOmega]) (fun j v hj=> ?_) (by have:=HS.out;omega) h1v
  rw[jf,Nat.zero_add]
  rw[World.cell?_of_block (w:=w) hW2]
  exact hvs j v hj
 have hw1:IntKind.i64.wrap ((i:Int)+1)=(i:Int)+1:=by rw[IntKind.wrap_i64];unfold maxLen at hc63;omega
 have hw2:IntKind.i64.wrap ((n:Int)+1)=(n:Int)+1:=by rw[IntKind.wrap_i64];unfold maxLen at hc63;omega
 have z2:¬((i:Int)=(n:Int)):=byOmega
 have z3:¬((c:Int)<(n:Int)+1):=byOmega
 have z4:(i:Int)≤(n:Int):=byOmega
 have z5:(0:Int)≤(i:Int)+1:=byOmega
 have z6:(i:Int)≤(n:Int)+1:=byOmega
 have z7:(n:Int)+1≤(c:Int):=byOmega
 have z8:(0:Int)≤(n:Int)+1:=byOmega
 have hin:i≤n:=byOmega
 have htn:((i:Int)+1).toNat=i+1:=byOmega
 have htn2:((n:Int)+1).toNat=n+1:=byOmega
 have hci:¬(c=i):=byOmega
 have hci1:¬(c=i+1):=byOmega
 have hW1:((w.drew).setRow b R1).heap[b]? =some (.cells R1 133 (0,0)):=setRow_heap _ _ row _ _ _ hg
 have hW2:((w.drew).setRow b R1).heap[vb]? =w.heap[vb]? :=setRow_other _ _ _ _ hvb
 clear hdl h5 h6 h7 h8 hcell
 go_enter Tryz.func282,Tryz.ntmps282
 go_wp2_with (simp only[hov])
 go_region_law (refine uD rfl rfl (v:= .slice (some ⟨b,(i+1)*11,none⟩) (n+1-(i+1)) (c-(i+1))) (u:= .slice (some ⟨b,i*11,none⟩) (n+1-i) (c-i)) (by simp[Act.eval,Act.put]) (by simp[Act.eval,Act.put]) (hcpA _ (by rfl) _ _ _) ?_)
 go_wp2_with (refine uC rfl rfl rfl rfl (hcpB _ hW1 hW2 _ _) ?_)
 go_ret
 refine⟨rfl,?_,rfl,rfl,rfl⟩
 rw[HT.out,HD.out]
 have hE:=Ec (w:=w) (w':=w.drew) rfl hg R1 (cs.take (i*11)++(vs++(cs.drop (i*11)++row.toList.drop ((n+1)*11)))).toArray
 simp only[List.append_assoc]
 exact hE
set_option maxHeartbeats 4000000 in
theorem SV (b n c i vb vc:Nat) (cs vs:List Value) (w:World) (hi:i<n) (hnc:n≤c) (hroom:c<n+1) (hbig:n≤100000) (hcl:cs.length=n*7) (hvl:vs.length=7)
 (hcs:∀j v,cs[j]? =some v→w.cell? ⟨b,j,none⟩=some v) (hvs:∀j v,vs[j]? =some v→w.cell? ⟨vb,j,none⟩=some v) (h1c:∀v∈cs,v.oneCell'=true) (h1v:∀v∈vs,v.oneCell'=true):
 Calls Tryz.prog 299 #[.slice (some ⟨b,0,none⟩) n c,.int .i64 i,.slice (some ⟨vb,0,none⟩) 1 vc] w fun e w'=>∃(C:Nat) (z:List Value),
  e= .returned (.slice (some ⟨w.heap.size,0,none⟩) (n+1) C)∧n+1≤C∧C≤maxLen∧(cs.take (i*7)++vs++cs.drop (i*7)++z).length=C*7∧
  w'.heap=w.heap.push (.cells (cs.take (i*7)++vs++cs.drop (i*7)++z).toArray 95 (0,0))∧w'.os=w.os∧w'.tape=w.tape∧w'.output=w.output:=by
 have hi0:Tryz.prog.info? 95=some ((Tryz.prog.info? 95).get aA):=(Option.some_get _).symm
 have hz0:((Tryz.prog.info? 95).get aA).zero=some (((Tryz.prog.info? 95).get aA).zero.get aA):=(Option.some_get _).symm
 have hz1:(((Tryz.prog.info? 95).get aA).zero.get aA).cells.size=7:=aA
 have hs1:((Tryz.prog.info? 95).get aA).size=7:=aA
 have hb8:((Tryz.prog.info? 95).get aA).bytes≤200:=by decide+kernel
 generalize ((Tryz.prog.info? 95).get aA).zero.get aA=Z at *
 generalize (Tryz.prog.info? 95).get aA=i0 at *
 have hsz:(Tryz.prog.info? 95).map (·.size)=some 7:=by rw[hi0];simp[hs1]
 have hik:i+(n+1-i)=n+1:=byOmega
 have hold:(Builtin.firstCells i0.size i (.slice (some ⟨b,0,none⟩) i c)).run Tryz.prog w.drew= .ok (cs.take (i*7)).toArray w.drew:=by
  rw[hs1]
  exact run_firstCells_some w.drew 7 i ⟨b,0,none⟩ i c (cs.take (i*7)) (by rw[List.length_take];omega) (fun j v hj=>by
   rw[jf,Nat.zero_add]
   rw[List.getElem?_take] at hj
   split at hj
   ·exact hcs j v hj
   ·cases hj)
 obtain⟨G,hG⟩:∃G,G=grownCap w (n+1) c 95:=⟨_,rfl⟩
 have hG1:n+1≤G:=by rw[hG];exact grownCap_ge w _ _ _
 have hG2:G≤maxLen:=by rw[hG];exact grownCap_le_maxLen w _ _ _ (by unfold maxLen;omega)
 have hfits:Builtin.nextslicecap (i+(n+1-i)) c*i0.bytes≤281474976710656:=by
  rw[hik]
  have h1:(n+1)*i0.bytes≤(n+1)*200:=Nat.mul_le_mul_left _ hb8
  exact growslice_fits hroom byOmega
 have h48:(n+1-i)*i0.bytes≤281474976710656:=by
  have h1:(n+1-i)*i0.bytes≤(n+1-i)*200:=Nat.mul_le_mul_left _ hb8
  omega
 have hrz:∀ty,(Builtin.append_ #[29,3] ty #[.slice (some ⟨b,0,none⟩) i c,.int .i64 ((n:Int)+1-(i:Int))]).run Tryz.prog w=
  .ok (.slice (some ⟨w.heap.size,0,none⟩) (n+1) G) (w.drew.alloc (.cells ((cs.take (i*7)).toArray++Builtin.zeroCells Z.cells (n+1-i)++Builtin.zeroCells Z.cells (G-(n+1))) 95)):=fun ty=>by
  have h:=Lib.run_append_grow_zeros w 29 3 ty 95 i0 Z .i64 .i64 Tryz.underlying29 Tryz.underlying3 hi0 hz0 (some ⟨b,0,none⟩) i c (cs.take (i*7)) hold (n+1-i) byOmega byOmega byOmega byOmega h48 hfits
  rw[hik,←hG] at h
  rw[show(n:Int)+1-(i:Int)=((n+1-i:Nat):Int) by omega]
  exact h
 obtain⟨ROW,hROW⟩:∃ROW:Array Value,ROW=(cs.take (i*7)).toArray++Builtin.zeroCells Z.cells (n+1-i)++Builtin.zeroCells Z.cells (G-(n+1)):=⟨_,rfl⟩
 have hzc:∀m,(Builtin.zeroCells Z.cells m).size=m*7:=fun m=>by simp[Builtin.zeroCells,hz1]
 have hRs:ROW.size=G*7:=by
  rw[hROW];simp only[Array.size_append,hzc,List.size_toArray,List.length_take,hcl]
  omega
 rw[←hROW] at hrz
 have hRt:ROW.toList.take (i*7)=cs.take (i*7):=by
  rw[hROW]
  simp only[Array.toList_append]
  rw[List.append_assoc,List.take_append_of_le_length (by simp;omega),List.take_of_length_le (by simp;omega)]
 have HR:=Lib.hid hRt
 have HS:=Lib.hid hRs
 clear hRt hRs hROW hG hzc hold h48 hfits hik
 have hcpA:∀(W:World),W.heap=w.heap.push (.cells ROW 95 (0,0))→∀ty dc,(Builtin.copy_ #[29,29] ty #[.slice (some ⟨w.heap.size,i*7,none⟩) (n+1-i) dc,.slice (some ⟨vb,0,none⟩) 1 vc]).run Tryz.prog W=
  .ok (goInt (Nat.min 1 (n+1-i))) (W.setRow w.heap.size (ROW.toList.take (i*7)++vs++ROW.toList.drop (i*7+vs.length)).toArray):=fun W hW ty dc=>by
  refine lD W _ _ ty 95 7 w.heap.size (i*7) (n+1-i) dc ⟨vb,0,none⟩ 1 vc ROW 95 vs Tryz.underlying29 hsz (by rw[hW];simp) (by rw[hvl,show Nat.min 1 (n+1-i)=1 from Nat.min_eq_left byOmega]) (fun j v hj=> ?_) (by have:=HS.out;omega) h1v
  rw[jf,Nat.zero_add]
  have h1:=hvs j v hj
  have h2:=block_lt_of_cell h1
  rw[World.cell?_of_block (w:=w) (by rw[hW,Array.getElem?_push_lt h2];exact(Array.getElem?_eq_getElem h2).symm)]
  exact h1
 obtain⟨R2,hR2⟩:∃R2,R2=(ROW.toList.take (i*7)++vs++ROW.toList.drop (i*7+vs.length)).toArray:=⟨_,rfl⟩
 rw[←hR2] at hcpA
 have hR2s:R2.size=G*7:=by rw[hR2];have:=HS.out;simp;omega
 have hR2t:R2.toList.take ((i+1)*7)=cs.take (i*7)++vs:=by
  rw[hR2,HR.out]
  simp only[List.append_assoc]
  rw[←List.append_assoc,List.take_append_of_le_length (by simp;omega),List.take_of_length_le (by simp;omega)]
 have HT:=Lib.hid hR2t
 have H2:=Lib.hid hR2s
 clear hR2t hR2s hR2
 have hcpB:∀(W:World),W.heap[w.heap.size]? =some (.cells R2 95 (0,0))→(∀g,g<w.heap.size→W.heap[g]? =w.heap[g]?)→∀ty dc sc,(Builtin.copy_ #[29,29] ty #[.slice (some ⟨w.heap.size,(i+1)*7,none⟩) (n+1-(i+1)) dc,.slice (some ⟨b,i*7,none⟩) (n-i) sc]).run Tryz.prog W=
  .ok (goInt (Nat.min (n-i) (n+1-(i+1)))) (W.setRow w.heap.size (R2.toList.take ((i+1)*7)++cs.drop (i*7)++R2.toList.drop ((i+1)*7+(cs.drop (i*7)).length)).toArray):=fun W hW hW2 ty dc sc=>by
  have hdl:(cs.drop (i*7)).length=(n-i)*7:=by rw[List.length_drop,hcl,Nat.sub_mul]
  refine lD W _ _ ty 95 7 w.heap.size ((i+1)*7) (n+1-(i+1)) dc ⟨b,i*7,none⟩ (n-i) sc R2 95 (cs.drop (i*7)) Tryz.underlying29 hsz hW (by rw[hdl,show Nat.min (n-i) (n+1-(i+1))=n-i from Nat.min_eq_left byOmega]) (fun j v hj=> ?_) (by have:=H2.out;rw[hdl];omega) (fun v hv=>h1c v (List.mem_of_mem_drop hv))
  rw[jf]
  rw[List.getElem?_drop] at hj
  have h1:=hcs _ v hj
  have h2:=block_lt_of_cell h1
  simp only at h2
  rw[World.cell?_of_block (w:=w) (hW2 _ h2)]
  exact h1
 have hw1:IntKind.i64.wrap ((i:Int)+1)=(i:Int)+1:=by rw[IntKind.wrap_i64];omega
 have hw2:IntKind.i64.wrap ((n:Int)+1)=(n:Int)+1:=by rw[IntKind.wrap_i64];omega
 have hw3:IntKind.i64.wrap ((n:Int)+1-(i:Int))=(n:Int)+1-(i:Int):=by rw[IntKind.wrap_i64];omega
 have z2:¬((i:Int)=(n:Int)):=byOmega
 have z3:(c:Int)<(n:Int)+1:=byOmega
 have z4:(i:Int)≤(n:Int):=byOmega
 have z5:(0:Int)≤(i:Int)+1:=byOmega
 have hin:i≤n:=byOmega
 have htn:((i:Int)+1).toNat=i+1:=byOmega
 have hci:¬(c=i):=byOmega
 have hGi:¬(G=i):=byOmega
 have hGim:¬(G=i+1):=byOmega
 go_enter Tryz.func299,Tryz.ntmps299
 go_wp2_with (first
  |(at_builtin;refine Lib.wpList_append_run _ rfl _ _ _ _ rfl _ _ rfl rfl _ _ (hrz _) ?_)
  |(refine uC rfl rfl rfl rfl (hcpA ((w.alloc (.cells ROW 95)).drew) rfl _ _) ?_))
 have hW1:(((w.alloc (.cells ROW 95)).drew.setRow w.heap.size R2).drew).heap[w.heap.size]? =some (.cells R2 95 (0,0)):=setRow_heap _ _ ROW _ _ _ (by show(w.heap.push _)[w.heap.size]? =_;simp)
 have hW2:∀g,g<w.heap.size→(((w.alloc (.cells ROW 95)).drew.setRow w.heap.size R2).drew).heap[g]? =w.heap[g]? :=fun g hg=>(setRow_other _ _ _ _ byOmega).trans (by show(w.heap.push _)[g]? =_;rw[Array.getElem?_push_lt hg];exact(Array.getElem?_eq_getElem hg).symm)
 go_region_law (refine uD rfl rfl (v:= .slice (some ⟨w.heap.size,(i+1)*7,none⟩) (n+1-(i+1)) (G-(i+1))) (u:= .slice (some ⟨b,i*7,none⟩) (n-i) (c-i)) (by simp[Act.eval,Act.put]) (by simp[Act.eval,Act.put]) (hcpB _ hW1 hW2 _ _ _) ?_)
 go_wp2
 go_ret
 refine⟨G,R2.toList.drop ((i+1)*7+(cs.drop (i*7)).length),rfl,hG1,hG2,?_,?_,rfl,rfl,rfl⟩
 ·have h1:=congrArg List.length HT.out
  have h2:=H2.out
  have h3:(cs.drop (i*7)).length=n*7-i*7:=by rw[List.length_drop,hcl]
  simp only[List.length_append,List.length_drop,Array.length_toList,List.length_take] at *
  omega
 ·rw[HT.out] at *
  refine(uE ((uE (w':=(w.alloc (.cells ROW 95)).drew) rfl R2):(((w.alloc (.cells ROW 95)).drew.setRow w.heap.size R2).drew).heap=_) _).trans ?_
  simp only[List.append_assoc,List.length_drop,hcl]
set_option maxHeartbeats 4000000 in
theorem SX (b n c i vb vc:Nat) (cs vs:List Value) (row:Array Value) (w:World) (hi:i<n) (hroom:n+1≤c) (hc63:c≤maxLen) (hvb:vb≠b) (hcl:cs.length=n*7) (hvl:vs.length=7) (hrow:row.toList.take (n*7)=cs) (hrs:row.size=c*7)
 (hg:w.heap[b]? =some (.cells row 95 (0,0))) (hvs:∀j v,vs[j]? =some v→w.cell? ⟨vb,j,none⟩=some v) (h1c:∀v∈cs,v.oneCell'=true) (h1v:∀v∈vs,v.oneCell'=true) (vrow:Array Value) (tv:TypeId) (hvg:w.heap[vb]? =some (.cells vrow tv (0,0))):
 Calls Tryz.prog 299 #[.slice (some ⟨b,0,none⟩) n c,.int .i64 i,.slice (some ⟨vb,0,none⟩) 1 vc] w fun e w'=>
  e= .returned (.slice (some ⟨b,0,none⟩) (n+1) c)∧w'.heap=(w.setRow b (cs.take (i*7)++vs++cs.drop (i*7)++row.toList.drop ((n+1)*7)).toArray).heap∧w'.os=w.os∧w'.tape=w.tape∧w'.output=w.output:=by
 have hi0:Tryz.prog.info? 95=some ((Tryz.prog.info? 95).get aA):=(Option.some_get _).symm
 have hs1:((Tryz.prog.info? 95).get aA).size=7:=aA
 generalize (Tryz.prog.info? 95).get aA=i0 at *
 have hsz:(Tryz.prog.info? 95).map (·.size)=some 7:=by rw[hi0];simp[hs1]
 have hov:∀la lb cb,(callFunc 301 #[.slice (some ⟨vb,0,none⟩) 1 la,.slice (some ⟨b,(i+1)*7,none⟩) lb cb]).run Tryz.prog w= .ok (.value (.bool false)) w:=fun la lb cb=>by
  rw[run_callFunc_extern Tryz.func301 aA aA aA (e:=Extern.SlicesOverlaps.overlaps #[29,29] #[4]) aA,
   Lib.run_overlaps_apart w 29 4 95 Tryz.underlying29 7 (fun w=>by simp[sizeOf,typeInfo,hi0,hs1]) ⟨vb,0,none⟩ ⟨b,(i+1)*7,none⟩ 1 la lb cb hvb tv 95 vrow.size row.size (by simp[World.shape?,hvg]) (by simp[World.shape?,hg]) (by have:(n+1)*7≤c*7:=Nat.mul_le_mul_right _ hroom;omega) (by simp[World.frozen?,hvg]) (by simp[World.frozen?,hvg])]
  rfl
 have hdl:(cs.drop (i*7)).length=(n-i)*7:=by rw[List.length_drop,hcl,Nat.sub_mul]
 have h5:(i+1)*7+(n-i)*7=(n+1)*7:=by rw[←Nat.add_mul];congr 1;omega
 have h6:(n+1)*7≤c*7:=Nat.mul_le_mul_right _ hroom
 have h7:i*7+7=(i+1)*7:=by rw[Nat.add_mul,Nat.one_mul]
 have h8:(i+1)*7≤n*7:=Nat.mul_le_mul_right _ hi
 have hcell:∀j v,cs[j]? =some v→row[j]? =some v:=fun j v h=>by
  rw[←hrow,List.getElem?_take] at h
  split at h
  ·rw[←Array.getElem?_toList];exact h
  ·cases h
 obtain⟨R1,hR1⟩:∃R1,R1=(row.toList.take ((i+1)*7)++cs.drop (i*7)++row.toList.drop ((i+1)*7+(cs.drop (i*7)).length)).toArray:=⟨_,rfl⟩
 have hcpA:∀(W:World),W.heap=w.heap→∀ty dc sc,(Builtin.copy_ #[29,29] ty #[.slice (some ⟨b,(i+1)*7,none⟩) (n+1-(i+1)) dc,.slice (some ⟨b,i*7,none⟩) (n+1-i) sc]).run Tryz.prog W=
  .ok (goInt (Nat.min (n+1-i) (n+1-(i+1)))) (W.setRow b R1):=fun W hW ty dc sc=>by
  rw[hR1]
  refine lD W _ _ ty 95 7 b ((i+1)*7) (n+1-(i+1)) dc ⟨b,i*7,none⟩ (n+1-i) sc row 95 (cs.drop (i*7)) Tryz.underlying29 hsz (by rw[hW];exact hg) (by rw[hdl,show Nat.min (n+1-i) (n+1-(i+1))=n-i from by simp only[Nat.min_def];split<;>omega]) (fun j v hj=> ?_) (by rw[hdl];omega) (fun v hv=>h1c v (List.mem_of_mem_drop hv))
  rw[jf]
  rw[List.getElem?_drop] at hj
  simp only[World.cell?,hW,hg]
  exact hcell _ v hj
 have hR1s:R1.size=c*7:=by rw[hR1];simp only[List.size_toArray,List.length_append,List.length_take,List.length_drop,Array.length_toList,hdl,hcl] at *;omega
 have hR1t:R1.toList.take (i*7)=cs.take (i*7):=by
  rw[hR1,←hrow]
  simp only[List.append_assoc]
  rw[List.take_append_of_le_length (by simp;omega),List.take_take,List.take_take]
  congr 1;omega
 have hR1d:R1.toList.drop (i*7+7)=cs.drop (i*7)++row.toList.drop ((n+1)*7):=by
  rw[h7,hR1]
  simp only[List.append_assoc]
  rw[List.drop_append_of_le_length (by simp;omega),List.drop_of_length_le (by simp;omega),List.nil_append,hdl,h5]
 have HD:=Lib.hid hR1d
 have HT:=Lib.hid hR1t
 have HS:=Lib.hid hR1s
 have HR:=Lib.hid hrow
 clear hR1d hR1t hR1s hR1 hrow hrs
 have hcpB:∀(W:World),W.heap[b]? =some (.cells R1 95 (0,0))→W.heap[vb]? =w.heap[vb]? →∀ty dc,(Builtin.copy_ #[29,29] ty #[.slice (some ⟨b,i*7,none⟩) (n+1-i) dc,.slice (some ⟨vb,0,none⟩) 1 vc]).run Tryz.prog W=
  .ok (goInt (Nat.min 1 (n+1-i))) (W.setRow b (R1.toList.take (i*7)++vs++R1.toList.drop (i*7+vs.length)).toArray):=fun W hW hW2 ty dc=>by
  refine lD W _ _ ty 95 7 b (i*7) (n+1-i) dc ⟨vb,0,none⟩ 1 vc R1 95 vs Tryz.underlying29 hsz hW (by rw[hvl,show Nat.min 1 (n+1-i)=1 from Nat.min_eq_left byOmega]) (fun j v hj=> ?_) (by have:=HS.out;omega) h1v
  rw[jf,Nat.zero_add]
  rw[World.cell?_of_block (w:=w) hW2]
  exact hvs j v hj
 have hw1:IntKind.i64.wrap ((i:Int)+1)=(i:Int)+1:=by rw[IntKind.wrap_i64];unfold maxLen at hc63;omega
 have hw2:IntKind.i64.wrap ((n:Int)+1)=(n:Int)+1:=by rw[IntKind.wrap_i64];unfold maxLen at hc63;omega
 have z2:¬((i:Int)=(n:Int)):=byOmega
 have z3:¬((c:Int)<(n:Int)+1):=byOmega
 have z4:(i:Int)≤(n:Int):=byOmega
 have z5:(0:Int)≤(i:Int)+1:=byOmega
 have z6:(i:Int)≤(n:Int)+1:=byOmega
 have z7:(n:Int)+1≤(c:Int):=byOmega
 have z8:(0:Int)≤(n:Int)+1:=byOmega
 have hin:i≤n:=byOmega
 have htn:((i:Int)+1).toNat=i+1:=byOmega
 have htn2:((n:Int)+1).toNat=n+1:=byOmega
 have hci:¬(c=i):=byOmega
 have hci1:¬(c=i+1):=byOmega
 have hW1:((w.drew).setRow b R1).heap[b]? =some (.cells R1 95 (0,0)):=setRow_heap _ _ row _ _ _ hg
 have hW2:((w.drew).setRow b R1).heap[vb]? =w.heap[vb]? :=setRow_other _ _ _ _ hvb
 clear hdl h5 h6 h7 h8 hcell
 go_enter Tryz.func299,Tryz.ntmps299
 go_wp2_with (simp only[hov])
 go_region_law (refine uD rfl rfl (v:= .slice (some ⟨b,(i+1)*7,none⟩) (n+1-(i+1)) (c-(i+1))) (u:= .slice (some ⟨b,i*7,none⟩) (n+1-i) (c-i)) (by simp[Act.eval,Act.put]) (by simp[Act.eval,Act.put]) (hcpA _ (by rfl) _ _ _) ?_)
 go_wp2_with (refine uC rfl rfl rfl rfl (hcpB _ hW1 hW2 _ _) ?_)
 go_ret
 refine⟨rfl,?_,rfl,rfl,rfl⟩
 rw[HT.out,HD.out]
 have hE:=Ec (w:=w) (w':=w.drew) rfl hg R1 (cs.take (i*7)++(vs++(cs.drop (i*7)++row.toList.drop ((n+1)*7)))).toArray
 simp only[List.append_assoc]
 exact hE
set_option maxHeartbeats 4000000 in
theorem SY (b n c i vb vc:Nat) (cs vs:List Value) (w:World) (hi:i<n) (hnc:n≤c) (hroom:c<n+1) (hbig:n≤100000) (hcl:cs.length=n*9) (hvl:vs.length=9)
 (hcs:∀j v,cs[j]? =some v→w.cell? ⟨b,j,none⟩=some v) (hvs:∀j v,vs[j]? =some v→w.cell? ⟨vb,j,none⟩=some v) (h1c:∀v∈cs,v.oneCell'=true) (h1v:∀v∈vs,v.oneCell'=true):
 Calls Tryz.prog 315 #[.slice (some ⟨b,0,none⟩) n c,.int .i64 i,.slice (some ⟨vb,0,none⟩) 1 vc] w fun e w'=>∃(C:Nat) (z:List Value),
  e= .returned (.slice (some ⟨w.heap.size,0,none⟩) (n+1) C)∧n+1≤C∧C≤maxLen∧(cs.take (i*9)++vs++cs.drop (i*9)++z).length=C*9∧
  w'.heap=w.heap.push (.cells (cs.take (i*9)++vs++cs.drop (i*9)++z).toArray 55 (0,0))∧w'.os=w.os∧w'.tape=w.tape∧w'.output=w.output:=by
 have hi0:Tryz.prog.info? 55=some ((Tryz.prog.info? 55).get aA):=(Option.some_get _).symm
 have hz0:((Tryz.prog.info? 55).get aA).zero=some (((Tryz.prog.info? 55).get aA).zero.get aA):=(Option.some_get _).symm
 have hz1:(((Tryz.prog.info? 55).get aA).zero.get aA).cells.size=9:=aA
 have hs1:((Tryz.prog.info? 55).get aA).size=9:=aA
 have hb8:((Tryz.prog.info? 55).get aA).bytes≤200:=by decide+kernel
 generalize ((Tryz.prog.info? 55).get aA).zero.get aA=Z at *
 generalize (Tryz.prog.info? 55).get aA=i0 at *
 have hsz:(Tryz.prog.info? 55).map (·.size)=some 9:=by rw[hi0];simp[hs1]
 have hik:i+(n+1-i)=n+1:=byOmega
 have hold:(Builtin.firstCells i0.size i (.slice (some ⟨b,0,none⟩) i c)).run Tryz.prog w.drew= .ok (cs.take (i*9)).toArray w.drew:=by
  rw[hs1]
  exact run_firstCells_some w.drew 9 i ⟨b,0,none⟩ i c (cs.take (i*9)) (by rw[List.length_take];omega) (fun j v hj=>by
   rw[jf,Nat.zero_add]
   rw[List.getElem?_take] at hj
   split at hj
   ·exact hcs j v hj
   ·cases hj)
 obtain⟨G,hG⟩:∃G,G=grownCap w (n+1) c 55:=⟨_,rfl⟩
 have hG1:n+1≤G:=by rw[hG];exact grownCap_ge w _ _ _
 have hG2:G≤maxLen:=by rw[hG];exact grownCap_le_maxLen w _ _ _ (by unfold maxLen;omega)
 have hfits:Builtin.nextslicecap (i+(n+1-i)) c*i0.bytes≤281474976710656:=by
  rw[hik]
  have h1:(n+1)*i0.bytes≤(n+1)*200:=Nat.mul_le_mul_left _ hb8
  exact growslice_fits hroom byOmega
 have h48:(n+1-i)*i0.bytes≤281474976710656:=by
  have h1:(n+1-i)*i0.bytes≤(n+1-i)*200:=Nat.mul_le_mul_left _ hb8
  omega
 have hrz:∀ty,(Builtin.append_ #[30,3] ty #[.slice (some ⟨b,0,none⟩) i c,.int .i64 ((n:Int)+1-(i:Int))]).run Tryz.prog w=
  .ok (.slice (some ⟨w.heap.size,0,none⟩) (n+1) G) (w.drew.alloc (.cells ((cs.take (i*9)).toArray++Builtin.zeroCells Z.cells (n+1-i)++Builtin.zeroCells Z.cells (G-(n+1))) 55)):=fun ty=>by
  have h:=Lib.run_append_grow_zeros w 30 3 ty 55 i0 Z .i64 .i64 Tryz.underlying30 Tryz.underlying3 hi0 hz0 (some ⟨b,0,none⟩) i c (cs.take (i*9)) hold (n+1-i) byOmega byOmega byOmega byOmega h48 hfits
  rw[hik,←hG] at h
  rw[show(n:Int)+1-(i:Int)=((n+1-i:Nat):Int) by omega]
  exact h
 obtain⟨ROW,hROW⟩:∃ROW:Array Value,ROW=(cs.take (i*9)).toArray++Builtin.zeroCells Z.cells (n+1-i)++Builtin.zeroCells Z.cells (G-(n+1)):=⟨_,rfl⟩
 have hzc:∀m,(Builtin.zeroCells Z.cells m).size=m*9:=fun m=>by simp[Builtin.zeroCells,hz1]
 have hRs:ROW.size=G*9:=by
  rw[hROW];simp only[Array.size_append,hzc,List.size_toArray,List.length_take,hcl]
  omega
 rw[←hROW] at hrz
 have hRt:ROW.toList.take (i*9)=cs.take (i*9):=by
  rw[hROW]
  simp only[Array.toList_append]
  rw[List.append_assoc,List.take_append_of_le_length (by simp;omega),List.take_of_length_le (by simp;omega)]
 have HR:=Lib.hid hRt
 have HS:=Lib.hid hRs
 clear hRt hRs hROW hG hzc hold h48 hfits hik
 have hcpA:∀(W:World),W.heap=w.heap.push (.cells ROW 55 (0,0))→∀ty dc,(Builtin.copy_ #[30,30] ty #[.slice (some ⟨w.heap.size,i*9,none⟩) (n+1-i) dc,.slice (some ⟨vb,0,none⟩) 1 vc]).run Tryz.prog W=
  .ok (goInt (Nat.min 1 (n+1-i))) (W.setRow w.heap.size (ROW.toList.take (i*9)++vs++ROW.toList.drop (i*9+vs.length)).toArray):=fun W hW ty dc=>by
  refine lD W _ _ ty 55 9 w.heap.size (i*9) (n+1-i) dc ⟨vb,0,none⟩ 1 vc ROW 55 vs Tryz.underlying30 hsz (by rw[hW];simp) (by rw[hvl,show Nat.min 1 (n+1-i)=1 from Nat.min_eq_left byOmega]) (fun j v hj=> ?_) (by have:=HS.out;omega) h1v
  rw[jf,Nat.zero_add]
  have h1:=hvs j v hj
  have h2:=block_lt_of_cell h1
  rw[World.cell?_of_block (w:=w) (by rw[hW,Array.getElem?_push_lt h2];exact(Array.getElem?_eq_getElem h2).symm)]
  exact h1
 obtain⟨R2,hR2⟩:∃R2,R2=(ROW.toList.take (i*9)++vs++ROW.toList.drop (i*9+vs.length)).toArray:=⟨_,rfl⟩
 rw[←hR2] at hcpA
 have hR2s:R2.size=G*9:=by rw[hR2];have:=HS.out;simp;omega
 have hR2t:R2.toList.take ((i+1)*9)=cs.take (i*9)++vs:=by
  rw[hR2,HR.out]
  simp only[List.append_assoc]
  rw[←List.append_assoc,List.take_append_of_le_length (by simp;omega),List.take_of_length_le (by simp;omega)]
 have HT:=Lib.hid hR2t
 have H2:=Lib.hid hR2s
 clear hR2t hR2s hR2
 have hcpB:∀(W:World),W.heap[w.heap.size]? =some (.cells R2 55 (0,0))→(∀g,g<w.heap.size→W.heap[g]? =w.heap[g]?)→∀ty dc sc,(Builtin.copy_ #[30,30] ty #[.slice (some ⟨w.heap.size,(i+1)*9,none⟩) (n+1-(i+1)) dc,.slice (some ⟨b,i*9,none⟩) (n-i) sc]).run Tryz.prog W=
  .ok (goInt (Nat.min (n-i) (n+1-(i+1)))) (W.setRow w.heap.size (R2.toList.take ((i+1)*9)++cs.drop (i*9)++R2.toList.drop ((i+1)*9+(cs.drop (i*9)).length)).toArray):=fun W hW hW2 ty dc sc=>by
  have hdl:(cs.drop (i*9)).length=(n-i)*9:=by rw[List.length_drop,hcl,Nat.sub_mul]
  refine lD W _ _ ty 55 9 w.heap.size ((i+1)*9) (n+1-(i+1)) dc ⟨b,i*9,none⟩ (n-i) sc R2 55 (cs.drop (i*9)) Tryz.underlying30 hsz hW (by rw[hdl,show Nat.min (n-i) (n+1-(i+1))=n-i from Nat.min_eq_left byOmega]) (fun j v hj=> ?_) (by have:=H2.out;rw[hdl];omega) (fun v hv=>h1c v (List.mem_of_mem_drop hv))
  rw[jf]
  rw[List.getElem?_drop] at hj
  have h1:=hcs _ v hj
  have h2:=block_lt_of_cell h1
  simp only at h2
  rw[World.cell?_of_block (w:=w) (hW2 _ h2)]
  exact h1
 have hw1:IntKind.i64.wrap ((i:Int)+1)=(i:Int)+1:=by rw[IntKind.wrap_i64];omega
 have hw2:IntKind.i64.wrap ((n:Int)+1)=(n:Int)+1:=by rw[IntKind.wrap_i64];omega
 have hw3:IntKind.i64.wrap ((n:Int)+1-(i:Int))=(n:Int)+1-(i:Int):=by rw[IntKind.wrap_i64];omega
 have z2:¬((i:Int)=(n:Int)):=byOmega
 have z3:(c:Int)<(n:Int)+1:=byOmega
 have z4:(i:Int)≤(n:Int):=byOmega
 have z5:(0:Int)≤(i:Int)+1:=byOmega
 have hin:i≤n:=byOmega
 have htn:((i:Int)+1).toNat=i+1:=byOmega
 have hci:¬(c=i):=byOmega
 have hGi:¬(G=i):=byOmega
 have hGim:¬(G=i+1):=byOmega
 go_enter Tryz.func315,Tryz.ntmps315
 go_wp2_with (first
  |(at_builtin;refine Lib.wpList_append_run _ rfl _ _ _ _ rfl _ _ rfl rfl _ _ (hrz _) ?_)
  |(refine uC rfl rfl rfl rfl (hcpA ((w.alloc (.cells ROW 55)).drew) rfl _ _) ?_))
 have hW1:(((w.alloc (.cells ROW 55)).drew.setRow w.heap.size R2).drew).heap[w.heap.size]? =some (.cells R2 55 (0,0)):=setRow_heap _ _ ROW _ _ _ (by show(w.heap.push _)[w.heap.size]? =_;simp)
 have hW2:∀g,g<w.heap.size→(((w.alloc (.cells ROW 55)).drew.setRow w.heap.size R2).drew).heap[g]? =w.heap[g]? :=fun g hg=>(setRow_other _ _ _ _ byOmega).trans (by show(w.heap.push _)[g]? =_;rw[Array.getElem?_push_lt hg];exact(Array.getElem?_eq_getElem hg).symm)
 go_region_law (refine uD rfl rfl (v:= .slice (some ⟨w.heap.size,(i+1)*9,none⟩) (n+1-(i+1)) (G-(i+1))) (u:= .slice (some ⟨b,i*9,none⟩) (n-i) (c-i)) (by simp[Act.eval,Act.put]) (by simp[Act.eval,Act.put]) (hcpB _ hW1 hW2 _ _ _) ?_)
 go_wp2
 go_ret
 refine⟨G,R2.toList.drop ((i+1)*9+(cs.drop (i*9)).length),rfl,hG1,hG2,?_,?_,rfl,rfl,rfl⟩
 ·have h1:=congrArg List.length HT.out
  have h2:=H2.out
  have h3:(cs.drop (i*9)).length=n*9-i*9:=by rw[List.length_drop,hcl]
  simp only[List.length_append,List.length_drop,Array.length_toList,List.length_take] at *
  omega
 ·rw[HT.out] at *
  refine(uE ((uE (w':=(w.alloc (.cells ROW 55)).drew) rfl R2):(((w.alloc (.cells ROW 55)).drew.setRow w.heap.size R2).drew).heap=_) _).trans ?_
  simp only[List.append_assoc,List.length_drop,hcl]
set_option maxHeartbeats 4000000 in
theorem S9 (b n c i vb vc:Nat) (cs vs:List Value) (row:Array Value) (w:World) (hi:i<n) (hroom:n+1≤c) (hc63:c≤maxLen) (hvb:vb≠b) (hcl:cs.length=n*9) (hvl:vs.length=9) (hrow:row.toList.take (n*9)=cs) (hrs:row.size=c*9)
 (hg:w.heap[b]? =some (.cells row 55 (0,0))) (hvs:∀j v,vs[j]? =some v→w.cell? ⟨vb,j,none⟩=some v) (h1c:∀v∈cs,v.oneCell'=true) (h1v:∀v∈vs,v.oneCell'=true) (vrow:Array Value) (tv:TypeId) (hvg:w.heap[vb]? =some (.cells vrow tv (0,0))):
 Calls Tryz.prog 315 #[.slice (some ⟨b,0,none⟩) n c,.int .i64 i,.slice (some ⟨vb,0,none⟩) 1 vc] w fun e w'=>
  e= .returned (.slice (some ⟨b,0,none⟩) (n+1) c)∧w'.heap=(w.setRow b (cs.take (i*9)++vs++cs.drop (i*9)++row.toList.drop ((n+1)*9)).toArray).heap∧w'.os=w.os∧w'.tape=w.tape∧w'.output=w.output:=by
 have hi0:Tryz.prog.info? 55=some ((Tryz.prog.info? 55).get aA):=(Option.some_get _).symm
 have hs1:((Tryz.prog.info? 55).get aA).size=9:=aA
 generalize (Tryz.prog.info? 55).get aA=i0 at *
 have hsz:(Tryz.prog.info? 55).map (·.size)=some 9:=by rw[hi0];simp[hs1]
 have hov:∀la lb cb,(callFunc 318 #[.slice (some ⟨vb,0,none⟩) 1 la,.slice (some ⟨b,(i+1)*9,none⟩) lb cb]).run Tryz.prog w= .ok (.value (.bool false)) w:=fun la lb cb=>by
  rw[run_callFunc_extern Tryz.func318 aA aA aA (e:=Extern.SlicesOverlaps.overlaps #[30,30] #[4]) aA,
   Lib.run_overlaps_apart w 30 4 55 Tryz.underlying30 9 (fun w=>by simp[sizeOf,typeInfo,hi0,hs1]) ⟨vb,0,none⟩ ⟨b,(i+1)*9,none⟩ 1 la lb cb hvb tv 55 vrow.size row.size (by simp[World.shape?,hvg]) (by simp[World.shape?,hg]) (by have:(n+1)*9≤c*9:=Nat.mul_le_mul_right _ hroom;omega) (by simp[World.frozen?,hvg]) (by simp[World.frozen?,hvg])]
  rfl
 have hdl:(cs.drop (i*9)).length=(n-i)*9:=by rw[List.length_drop,hcl,Nat.sub_mul]
 have h5:(i+1)*9+(n-i)*9=(n+1)*9:=by rw[←Nat.add_mul];congr 1;omega
 have h6:(n+1)*9≤c*9:=Nat.mul_le_mul_right _ hroom
 have h7:i*9+9=(i+1)*9:=by rw[Nat.add_mul,Nat.one_mul]
 have h8:(i+1)*9≤n*9:=Nat.mul_le_mul_right _ hi
 have hcell:∀j v,cs[j]? =some v→row[j]? =some v:=fun j v h=>by
  rw[←hrow,List.getElem?_take] at h
  split at h
  ·rw[←Array.getElem?_toList];exact h
  ·cases h
 obtain⟨R1,hR1⟩:∃R1,R1=(row.toList.take ((i+1)*9)++cs.drop (i*9)++row.toList.drop ((i+1)*9+(cs.drop (i*9)).length)).toArray:=⟨_,rfl⟩
 have hcpA:∀(W:World),W.heap=w.heap→∀ty dc sc,(Builtin.copy_ #[30,30] ty #[.slice (some ⟨b,(i+1)*9,none⟩) (n+1-(i+1)) dc,.slice (some ⟨b,i*9,none⟩) (n+1-i) sc]).run Tryz.prog W=
  .ok (goInt (Nat.min (n+1-i) (n+1-(i+1)))) (W.setRow b R1):=fun W hW ty dc sc=>by
  rw[hR1]
  refine lD W _ _ ty 55 9 b ((i+1)*9) (n+1-(i+1)) dc ⟨b,i*9,none⟩ (n+1-i) sc row 55 (cs.drop (i*9)) Tryz.underlying30 hsz (by rw[hW];exact hg) (by rw[hdl,show Nat.min (n+1-i) (n+1-(i+1))=n-i from by simp only[Nat.min_def];split<;>omega]) (fun j v hj=> ?_) (by rw[hdl];omega) (fun v hv=>h1c v (List.mem_of_mem_drop hv))
  rw[jf]
  rw[List.getElem?_drop] at hj
  simp only[World.cell?,hW,hg]
  exact hcell _ v hj
 have hR1s:R1.size=c*9:=by rw[hR1];simp only[List.size_toArray,List.length_append,List.length_take,List.length_drop,Array.length_toList,hdl,hcl] at *;omega
 have hR1t:R1.toList.take (i*9)=cs.take (i*9):=by
  rw[hR1,←hrow]
  simp only[List.append_assoc]
  rw[List.take_append_of_le_length (by simp;omega),List.take_take,List.take_take]
  congr 1;omega
 have hR1d:R1.toList.drop (i*9+9)=cs.drop (i*9)++row.toList.drop ((n+1)*9):=by
  rw[h7,hR1]
  simp only[List.append_assoc]
  rw[List.drop_append_of_le_length (by simp;omega),List.drop_of_length_le (by simp;omega),List.nil_append,hdl,h5]
 have HD:=Lib.hid hR1d
 have HT:=Lib.hid hR1t
 have HS:=Lib.hid hR1s
 have HR:=Lib.hid hrow
 clear hR1d hR1t hR1s hR1 hrow hrs
 have hcpB:∀(W:World),W.heap[b]? =some (.cells R1 55 (0,0))→W.heap[vb]? =w.heap[vb]? →∀ty dc,(Builtin.copy_ #[30,30] ty #[.slice (some ⟨b,i*9,none⟩) (n+1-i) dc,.slice (some ⟨vb,0,none⟩) 1 vc]).run Tryz.prog W=
  .ok (goInt (Nat.min 1 (n+1-i))) (W.setRow b (R1.toList.take (i*9)++vs++R1.toList.drop (i*9+vs.length)).toArray):=fun W hW hW2 ty dc=>by
  refine lD W _ _ ty 55 9 b (i*9) (n+1-i) dc ⟨vb,0,none⟩ 1 vc R1 55 vs Tryz.underlying30 hsz hW (by rw[hvl,show Nat.min 1 (n+1-i)=1 from Nat.min_eq_left byOmega]) (fun j v hj=> ?_) (by have:=HS.out;omega) h1v
  rw[jf,Nat.zero_add]
  rw[World.cell?_of_block (w:=w) hW2]
  exact hvs j v hj
 have hw1:IntKind.i64.wrap ((i:Int)+1)=(i:Int)+1:=by rw[IntKind.wrap_i64];unfold maxLen at hc63;omega
 have hw2:IntKind.i64.wrap ((n:Int)+1)=(n:Int)+1:=by rw[IntKind.wrap_i64];unfold maxLen at hc63;omega
 have z2:¬((i:Int)=(n:Int)):=byOmega
 have z3:¬((c:Int)<(n:Int)+1):=byOmega
 have z4:(i:Int)≤(n:Int):=byOmega
 have z5:(0:Int)≤(i:Int)+1:=byOmega
 have z6:(i:Int)≤(n:Int)+1:=byOmega
 have z7:(n:Int)+1≤(c:Int):=byOmega
 have z8:(0:Int)≤(n:Int)+1:=byOmega
 have hin:i≤n:=byOmega
 have htn:((i:Int)+1).toNat=i+1:=byOmega
 have htn2:((n:Int)+1).toNat=n+1:=byOmega
 have hci:¬(c=i):=byOmega
 have hci1:¬(c=i+1):=byOmega
 have hW1:((w.drew).setRow b R1).heap[b]? =some (.cells R1 55 (0,0)):=setRow_heap _ _ row _ _ _ hg
 have hW2:((w.drew).setRow b R1).heap[vb]? =w.heap[vb]? :=setRow_other _ _ _ _ hvb
 clear hdl h5 h6 h7 h8 hcell
 go_enter Tryz.func315,Tryz.ntmps315
 go_wp2_with (simp only[hov])
 go_region_law (refine uD rfl rfl (v:= .slice (some ⟨b,(i+1)*9,none⟩) (n+1-(i+1)) (c-(i+1))) (u:= .slice (some ⟨b,i*9,none⟩) (n+1-i) (c-i)) (by simp[Act.eval,Act.put]) (by simp[Act.eval,Act.put]) (hcpA _ (by rfl) _ _ _) ?_)
 go_wp2_with (refine uC rfl rfl rfl rfl (hcpB _ hW1 hW2 _ _) ?_)
 go_ret
 refine⟨rfl,?_,rfl,rfl,rfl⟩
 rw[HT.out,HD.out]
 have hE:=Ec (w:=w) (w':=w.drew) rfl hg R1 (cs.take (i*9)++(vs++(cs.drop (i*9)++row.toList.drop ((n+1)*9)))).toArray
 simp only[List.append_assoc]
 exact hE
end Go.Proofs.YtlikpcpllahalaaGreat.V
