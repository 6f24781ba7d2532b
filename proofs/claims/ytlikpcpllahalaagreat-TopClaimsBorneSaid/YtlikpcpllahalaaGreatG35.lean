/- Parts of the proof. -/
import Derived.Test.YtlikpcpllahalaaGreatG34
import Derived.RegionIn
set_option maxHeartbeats 16000000
set_option linter.unusedSimpArgs false
set_option linter.unusedVariables false
namespace Go.Proofs.YtlikpcpllahalaaGreat.V
open Go.RowKit
set_option maxRecDepth 100000
theorem setCell_at {w:World} {b j:Nat} {v:Value} {c:Array Value} {t:TypeId} (hg:w.heap[b]? =some (.cells c t (0,0))):(w.setCell ⟨b,j,none⟩ v).heap[b]? =some (.cells (c.setIfInBounds j v) t (0,0)):=by
 show(w.heap.modify b _)[b]? =_
 rw[Array.getElem?_modify,if_pos rfl,hg]
 simp only[Option.map_some,Option.isSome_none,Bool.false_eq_true,if_false]
theorem mo {w:World} {b j k:Nat} {v:Value} (h:k≠b):(w.setCell ⟨b,j,none⟩ v).heap[k]? =w.heap[k]? :=by
 show(w.heap.modify b _)[k]? =_
 rw[Array.getElem?_modify,if_neg byOmega]
theorem qE:DT Tryz.prog 80 2:=by
 intro bs w hb
 obtain⟨b,d,rfl⟩:∃b d,bs=[b,d]:=by
  match bs,hb with
  | [b,d],_=>exact⟨b,d,rfl⟩
 refine callsDIn_of_wpSIn Tryz.func80 rfl trivial fun c₀ cs hu=> ?_
 apply wpSIn_seq
 apply wpSIn_region
 simp[wpOpsSIn,go_sem,recoverD,hu,Tryz.ntmps80,Exit.thenS,aT,ptrs,Array.replicate]
 apply wpSIn_seq
 apply wpSIn_region
 simp[wpOpsSIn,go_sem,Exit.thenS]
 refine wpSIn_cond (t:=false) (by simp[Act.eval]) ?_
 simp only[Bool.false_eq_true,if_false]
 refine wpSIn_of_wpIn rfl (wpIn_skip ?_)
 cases c₀
 simp_all[bodyPostS,results,Tryz.results80]
theorem sj (e:Int):DU Tryz.prog 80 (.iface 193 (.agg #[.int .i64 e])) [[.int .i64 0,.int .i64 0,.int .i64 0,.int .i64 0,.int .i64 0],[.int .i64 e]]:=by
 intro bs w hb hnd hbl
 obtain⟨b,d,rfl⟩:∃b d,bs=[b,d]:=by
  match bs,hb with
  | [b,d],_=>exact⟨b,d,rfl⟩
 obtain⟨c,t,hg,hl⟩:=hbl 0 b _ rfl rfl
 obtain⟨c',t',hg',hl'⟩:=hbl 1 d _ rfl rfl
 refine callsDIn_of_wpSIn Tryz.func80 rfl trivial fun c₀ cs hu=> ?_
 apply wpSIn_seq
 apply wpSIn_region
 simp[wpOpsSIn,go_sem,recoverD,hu,Tryz.ntmps80,Exit.thenS,aT,ptrs,Array.replicate]
 apply wpSIn_seq
 apply wpSIn_region
 simp[wpOpsSIn,go_sem,Exit.thenS]
 refine wpSIn_cond (t:=true) (by simp[Act.eval]) ?_
 simp only[if_true]
 have h0:5≤c.size:=by have:=hl;simpa using this
 have h1:0<c'.size:=by have:=hl';simp at this;omega
 have hbd:b≠d:=by rintro rfl;simp at hnd
 have hta:∀w:World,(Instr.typeAssert (.iface 193 (.agg #[.int .i64 e])) 20 193 false).run Tryz.prog w= .ok (.agg #[.int .i64 e]) w:=fun w=>by
  simp[Instr.typeAssert,run_underlying Tryz.underlying193]
 refine wpSIn_of_wpIn rfl ?_
 have hc:∀j (hj:j<c.size),w.cell? ⟨b,j,none⟩=some c[j]:=fun j hj=>by simp[World.cell?,hg,hj]
 have hc0:=hc 0 byOmega
 have hc1:=hc 1 byOmega
 have hc2:=hc 2 byOmega
 have hc3:=hc 3 byOmega
 have hc4:=hc 4 byOmega
 have hz:∀j,w.frozen? ⟨b,j,none⟩=false:=fun j=>by simp[World.frozen?,hg]
 have hd0:w.cell? ⟨d,0,none⟩=some c'[0]:=by simp[World.cell?,hg',h1]
 have hdz:∀j,w.frozen? ⟨d,j,none⟩=false:=fun j=>by simp[World.frozen?,hg']
 generalize hq:c[0]=q0 at *
 generalize hq1:c[1]=q1 at *
 generalize hq2:c[2]=q2 at *
 generalize hq3:c[3]=q3 at *
 generalize hq4:c[4]=q4 at *
 generalize hq5:c'[0]=q5 at *
 have hfl:∀w:World,(Instr.field 193 (.agg #[.int .i64 e]) 0).run Tryz.prog w= .ok (.int .i64 e) w:=fun w=>by
  simp[Instr.field,run_underlying Tryz.underlying193,asAgg,go_sem]
 clear hb hnd hbl
 have mx:=mixed
 gi_region
 all_goals simp[bodyPostS,results,Tryz.results80]
 refine⟨c,t,hg,hl,c',t',?_,hl',?_,rfl,rfl,rfl⟩
 ·rw[setRow_other _ _ _ _ (Ne.symm hbd)];exact hg'
 ·obtain⟨A,hA⟩:∃A,A=laid c [.int .i64 0,.int .i64 0,.int .i64 0,.int .i64 0,.int .i64 0]:=⟨_,rfl⟩
  obtain⟨B,hB⟩:∃B,B=laid c' [.int .i64 e]:=⟨_,rfl⟩
  rw[←hA,←hB]
  have hA':((((c.setIfInBounds 0 (.int .i64 0)).setIfInBounds 1 (.int .i64 0)).setIfInBounds 2 (.int .i64 0)).setIfInBounds 3 (.int .i64 0)).setIfInBounds 4 (.int .i64 0)=A:=by
   rw[hA]
   apply Array.ext'
   simp only[laid,Array.toList_setIfInBounds]
   have h0:5≤c.toList.length:=by simpa using h0
   match hc:c.toList,h0 with
   |_::_::_::_::_::l,_=>rfl
  have hB':c'.setIfInBounds 0 (.int .i64 e)=B:=by
   rw[hB]
   apply Array.ext'
   simp only[laid,Array.toList_setIfInBounds]
   have h1:0<c'.toList.length:=by simpa using h1
   match hc:c'.toList,h1 with
   |_::l,_=>rfl
  have hd2:(w.setRow b A).heap[d]? =some (.cells c' t' (0,0)):=by rw[setRow_other _ _ _ _ (Ne.symm hbd)];exact hg'
  apply Array.ext_getElem?
  intro j
  show(World.setCell _ _ _).heap[j]? =_
  have a0:=setCell_at (j:=0) (v:= .int .i64 0) hg
  have a1:=setCell_at (j:=1) (v:= .int .i64 0) a0
  have a2:=setCell_at (j:=2) (v:= .int .i64 0) a1
  have a3:=setCell_at (j:=3) (v:= .int .i64 0) a2
  have a4:=setCell_at (j:=4) (v:= .int .i64 0) a3
  rw[hA'] at a4
  by_cases hj:j=d
  ·subst hj
   rw[setRow_heap _ _ c' _ t' _ hd2,←hB']
   refine setCell_at ?_
   rw[mo (Ne.symm hbd),mo (Ne.symm hbd),mo (Ne.symm hbd),mo (Ne.symm hbd),mo (Ne.symm hbd)]
   exact hg'
  ·rw[setRow_other _ _ _ _ hj,mo hj]
   by_cases hk:j=b
   ·subst hk
    rw[setRow_heap _ _ c _ t _ hg]
    exact a4
   ·rw[setRow_other _ _ _ _ hk,mo hk,mo hk,mo hk,mo hk,mo hk]
end Go.Proofs.YtlikpcpllahalaaGreat.V
