/- Parts of the proof. -/
import Derived.Test.YtlikpcpllahalaaGreatG6
import Derived.Lib.LazyBuf
import Derived.WideLaws
import Derived.Maps.Own
set_option linter.unusedSimpArgs false
set_option linter.unusedVariables false
namespace Go.Proofs.YtlikpcpllahalaaGreat.V
open Go.RowKit
section
variable {P:Program} {cx:Cx} {hyp:Prop} {env:Env} {box:ay} {nm:Nat} {o:Oper} {K:OpS→Prop}
theorem tZ {x:AV} (h:hyp→Yields P cx o (az env) ⟨[],x,[]⟩) (hK:K ⟨[],x,[]⟩):dN P cx hyp env box nm o K:=⟨_,h,by simp,by simp,hK⟩
theorem bM {x:AV} (h:Yields P cx o (az env) ⟨[],x,[]⟩) (hK:K ⟨[],x,[]⟩):dN P cx hyp env box nm o K:=tZ (fun _=>h) hK
theorem OW {t:TypeId} {y:Operand} (ho:o.op= .load t y) (h:wD P env box t y K):dN P cx hyp env box nm o K:=by
 unfold wD at h
 split at h
 ·rename_i i b off hi hy
  split at h
  ·rename_i bx hb
   split at h
   ·rename_i x hx
    exact⟨_,fun _=>Od ho (qY hi) (fC hi) hy h.1 hx,by simpa using hb,by simp,h.2⟩
   ·exact h.elim
  ·exact h.elim
 ·rename_i i l hi hy
  split at h
  ·rename_i x hx
   exact bM (Oe ho (qY hi) (fC hi) hy hx) h
  ·exact h.elim
 ·exact h.elim
theorem OX {t:TypeId} {y u:Operand} (ho:o.op= .store t y u) (h:wF P env box t y u K):dN P cx hyp env box nm o K:=by
 unfold wF at h
 split at h
 ·rename_i i b off hi hy
  split at h
  ·rename_i bx hb
   obtain⟨⟨h1,h2,h3,h4⟩,h5⟩:=h
   exact⟨_,fun _=>Oi ho (fC hi) hy h1 h2 h3 h4,by simpa using hb,fun b' x hx=> .inl (by simp at hx;exact⟨bx,by simp[hx.1]⟩),h5⟩
  ·exact h.elim
 ·exact h.elim
theorem OY {s:TypeId} {y:Operand} {f:Nat} (ho:o.op= .fieldAddr s y f) (h:wG P env s y f K):dN P cx hyp env box nm o K:=by
 unfold wG at h
 split at h
 ·rename_i fs hk
  simp only[Option.map_eq_some_iff] at hk
  obtain⟨i,hi,hk⟩:=hk
  obtain⟨fds,hu,rfl⟩:=yY hi hk
  split at h
  ·rename_i fo ft hf
   simp only[List.getElem?_map,Option.map_eq_some_iff] at hf
   obtain⟨fd,hfd,he⟩:=hf
   injection he with e1 e2
   subst e1 e2
   have hfd':fds[f]? =some fd:=by simpa using hfd
   split at h
   ·rename_i j hj
    obtain⟨h0,h⟩:=h
    split at h
    ·rename_i b off hy
     exact bM (Ob ho hu hfd' (fC hj) h0 hy) h
    ·rename_i l hy
     exact bM (Oc ho hu hfd' (fC hj) h0 hy) h
    ·exact h.elim
   ·exact h.elim
  ·exact h.elim
 ·exact h.elim
theorem OZ {ρ:Operand→AV} {t e:TypeId} {y z:Operand} {k n:Nat} {l:List AV} {kd:IntKind} {i:Int} (ho:o.op= .indexAddr t y z) (ht:P.underlying t=some (.array n e)) (hk:∀w,(sizeOf e).run P w= .ok k w)
 (hy:ρ y= .pp l) (hz:ρ z= .v (.int kd i)) (h0:0≤i) (hn:i<n):Yields P cx o ρ ⟨[],.pp (l.drop (i.toNat*k)),[]⟩:=by
 refine bJ fun ι M a w _ hops=> ?_
 have h1:=hops y (aM ho (by simp[Op.operands]))
 have h2:=hops z (aM ho (by simp[Op.operands]))
 rw[hy] at h1
 rw[hz] at h2
 obtain⟨g,off,hv⟩:=h1.pp_addr
 rw[hv] at h1
 exact⟨_,by simp[execOp,ho,Instr.indexAt,run_underlying ht,hv,h2.ofV,asIntOf,Instr.sureAddr,hk,h0,hn,lW],h1.pp_drop⟩
theorem O0 {t:TypeId} {y z:Operand} (ho:o.op= .indexAddr t y z) (h:wH P hyp env t y z K):dN P cx hyp env box nm o K:=by
 unfold wH at h
 split at h
 ·rename_i e kd i hk hz
  simp only[Option.map_eq_some_iff] at hk
  obtain⟨ti,hi,hk⟩:=hk
  split at h
  ·rename_i j hj
   split at h
   ·rename_i full k l hy
    obtain⟨rfl,h1,h3⟩:=h
    refine tZ (fun hh=> ?_) h3
    obtain⟨g1,g2⟩:=h1 hh
    have hlt:i.toNat<l.length:=byOmega
    rw[List.getElem?_eq_getElem hlt,Option.getD_some]
    exact Oo ho (ku hi hk) (fC hj) hy hz g1 (List.getElem?_eq_getElem hlt)
   ·rename_i b k off n hy
    obtain⟨rfl,h1,h3⟩:=h
    exact tZ (fun hh=>Oq ho (ku hi hk) (fC hj) hy hz (h1 hh).1 (h1 hh).2) h3
   ·exact h.elim
  ·exact h.elim
 ·rename_i n e kd i hk hz
  simp only[Option.map_eq_some_iff] at hk
  obtain⟨ti,hi,hk⟩:=hk
  split at h
  ·rename_i j hj
   split at h
   ·rename_i b off hy
    exact tZ (fun hh=>Ot (k:=j.size) ho (wC hi hk) (fC hj) hy hz (h.1 hh).1 (h.1 hh).2) h.2
   ·rename_i l hy
    exact tZ (fun hh=>OZ (k:=j.size) ho (wC hi hk) (fC hj) hy hz (h.1 hh).1 (h.1 hh).2) h.2
   ·exact h.elim
  ·exact h.elim
 ·exact h.elim
theorem xc {op:BinOp} {t t':TypeId} {x y:Operand} {u v r:Value} (ho:o.op= .binOp op t x y t') (hx:az env x= .v u) (hy:az env y= .v v)
 (hr:∀w,(do eqGuard op t x y u v;binOp op t u v:Sem Value).run P w= .ok r w):Yields P cx o (az env) ⟨[],.v r,[]⟩:=by
 refine bJ fun ι M a w _ hops=>⟨r,?_,.d (.v _)⟩
 have h1:=hops x (aM ho (by simp[Op.operands]))
 have h2:=hops y (aM ho (by simp[Op.operands]))
 rw[hx] at h1
 rw[hy] at h2
 have he:execOp a.eval o=(do let r ←(do eqGuard op t x y u v;binOp op t u v);pure (.value r)):=by simp only[execOp,ho,h1.ofV,h2.ofV]
 rw[he,Sem.run_bind,hr w]
 rfl
theorem Hd {l:List AV} {us:List Int} (h:l.mapM AV.int?=some us):l=us.map fun n=> .v (.int .i64 n):=by
 induction l generalizing us with
 |nil=>simp at h;subst h;rfl
 |cons a l ih=>
  simp only[List.mapM_cons,Option.bind_eq_bind] at h
  cases ha:a.int? with
  |none=>rw[ha] at h;simp at h
  |some n=>
   rw[ha] at h
   cases hl:l.mapM AV.int? with
   |none=>rw[hl] at h;simp at h
   |some ns=>
    rw[hl] at h
    simp at h
    subst h
    have hav:a= .v (.int .i64 n):=by
     unfold AV.int? at ha
     split at ha
     ·injection ha with ha;subst ha;rfl
     ·cases ha
    rw[List.map_cons,←ih hl,hav]
theorem RepA.ints {ι:Nat→Option Nat} {M:Nat→Prop} {w:World} {v:Value} {us:List Int} (h:RepA ι M w v (.agg (us.map fun n=> .v (.int .i64 n)))):v= .agg (us.map (Value.int .i64)).toArray:=by
 obtain⟨vs,rfl,hn,hh⟩:=h.agg'
 congr 1
 apply Array.ext_getElem?
 intro i
 by_cases hi:i<us.length
 ·have h1:i<vs.size:=by rw[hn];simpa using hi
  have:=hh i vs[i] (.v (.int .i64 us[i])) (Array.getElem?_eq_getElem h1) (by simp[hi])
  rw[Array.getElem?_eq_getElem h1,this.ofV]
  simp[hi]
 ·rw[Array.getElem?_eq_none (by rw[hn];simp;omega),Array.getElem?_eq_none (by simp;omega)]
theorem He {l:List AV} {us:List Sc} (h:l.mapM AV.sc?=some us):l=us.map fun n=> .v n.v:=by
 induction l generalizing us with
 |nil=>simp at h;subst h;rfl
 |cons a l ih=>
  simp only[List.mapM_cons,Option.bind_eq_bind] at h
  cases ha:a.sc? with
  |none=>rw[ha] at h;simp at h
  |some n=>
   rw[ha] at h
   cases hl:l.mapM AV.sc? with
   |none=>rw[hl] at h;simp at h
   |some ns=>
    rw[hl] at h
    simp at h
    subst h
    have hav:a= .v n.v:=by
     unfold AV.sc? at ha
     split at ha
     ·injection ha with ha;subst ha;rfl
     ·injection ha with ha;subst ha;rfl
     ·cases ha
    rw[List.map_cons,←ih hl,hav]
theorem RepA.scs {ι:Nat→Option Nat} {M:Nat→Prop} {w:World} {v:Value} {us:List Sc} (h:RepA ι M w v (.agg (us.map fun n=> .v n.v))):v= .agg (us.map Sc.v).toArray:=by
 obtain⟨vs,rfl,hn,hh⟩:=h.agg'
 congr 1
 apply Array.ext_getElem?
 intro i
 by_cases hi:i<us.length
 ·have h1:i<vs.size:=by rw[hn];simpa using hi
  have:=hh i vs[i] (.v us[i].v) (Array.getElem?_eq_getElem h1) (by simp[hi])
  rw[Array.getElem?_eq_getElem h1,this.ofV]
  simp[hi]
 ·rw[Array.getElem?_eq_none (by rw[hn];simp;omega),Array.getElem?_eq_none (by simp;omega)]
theorem RepA.iface' {ι:Nat→Option Nat} {M:Nat→Prop} {w:World} {v:Value} {t:TypeId} {x:AV} (h:RepA ι M w v (.iface t x)):∃u,v= .iface t u:=by
 cases h with
 |d h=>cases h
 |iface h=>exact⟨_,rfl⟩
theorem O1 {op:BinOp} {t t':TypeId} {x y:Operand} (ho:o.op= .binOp op t x y t') (h:wI P op t (isConst y) (az env x) (az env y) K):dN P cx hyp env box nm o K:=by
 unfold wI at h
 split at h
 ·rename_i k a k' b hx hy
  obtain⟨rfl,h⟩:=h
  split at h
  ·rename_i z hz
   refine bM ?_ h
   cases op<;>simp[bC] at hz<;>(first|subst hz|(obtain⟨hb,hz⟩:=hz;subst hz))<;>exact xc ho hx hy (fun w=>by simp_all[eqGuard,binOp,Op.intArith,Op.intCmp,Op.intDiv,Op.shift,Op.intBits,Int.not_lt]<;>(try(intro h;omega)))
  ·exact h.elim
 ·rename_i a b hx hy
  obtain⟨hu,h⟩:=h
  cases op<;>simp only at h<;>try exact h.elim
  ·refine bM (xc ho hx hy fun w=> ?_) h
   have he:(Op.equal t (.bool a) (.bool b)).run P w= .ok (a==b) w:=by
    show(Op.equalIn (9999+1) t (.bool a) (.bool b)).run P w=_
    rw[Op.equalIn]
    simp[run_underlying hu]
   have hb:binOp .eql t (.bool a) (.bool b)=(do pure (.bool (←Op.equal t (.bool a) (.bool b)))):=rfl
   have hg:eqGuard .eql t x y (.bool a) (.bool b)=pure () :=rfl
   rw[hb,hg,Sem.run_bind,Sem.run_pure,Result.andThen_ok,Sem.run_bind,he]
   rfl
  ·refine bM (xc ho hx hy fun w=> ?_) h
   have he:(Op.equal t (.bool a) (.bool b)).run P w= .ok (a==b) w:=by
    show(Op.equalIn (9999+1) t (.bool a) (.bool b)).run P w=_
    rw[Op.equalIn]
    simp[run_underlying hu]
   have hb:binOp .neq t (.bool a) (.bool b)=(do pure (.bool (!(←Op.equal t (.bool a) (.bool b))))):=rfl
   have hg:eqGuard .neq t x y (.bool a) (.bool b)=pure () :=rfl
   rw[hb,hg,Sem.run_bind,Sem.run_pure,Result.andThen_ok,Sem.run_bind,he]
   rfl
 ·rename_i f k l hx hy
  obtain⟨⟨rfl,e,hu⟩,h⟩:=h
  refine bM (bJ fun ι M a w _ hops=> ?_) h
  have g1:=hops x (aM ho (by simp[Op.operands]))
  have g2:=(hops y (aM ho (by simp[Op.operands])))
  rw[hx] at g1
  rw[hy] at g2
  have e2:=g2.ofV
  have g3:=g1.sl'
  generalize e1:a.eval x=vx at g3
  cases g3 with
  | @sl A n cap _ _ _ b off xx hn hc hm hf hk hA hl hxx=>
    refine⟨.bool A.isNone,?_,.bit fun hb=> ?_⟩
    ·have hrun:=Lib.run_eql_slice_nil w t e A n cap 0 0 hu
     have hgd:eqGuard .eql t x y (.slice A n cap) (.slice none 0 0)=pure () :=rfl
     simp only[execOp,ho,e1,e2,hgd]
     simp[hrun]
    ·refine Classical.byContradiction fun hne=> ?_
     rw[(hA hne).1] at hb
     cases hb
 ·rename_i A n c hx hy
  obtain⟨⟨rfl,e,hu⟩,h⟩:=h
  refine bM (xc ho hx hy fun w=> ?_) h
  have hrun:=Lib.run_eql_slice_nil w t e A n c 0 0 hu
  have hgd:eqGuard .eql t x y (.slice A n c) (.slice none 0 0)=pure () :=rfl
  rw[hgd,Sem.run_bind,Sem.run_pure,Result.andThen_ok,hrun]
 ·rename_i ti xi hx hy
  obtain⟨⟨rfl,hu⟩,h⟩:=h
  refine bM (bJ fun ι M a w _ hops=> ?_) h
  have g1:=hops x (aM ho (by simp[Op.operands]))
  have g2:=(hops y (aM ho (by simp[Op.operands])))
  rw[hx] at g1
  rw[hy] at g2
  have e2:=g2.ofV
  obtain⟨u,e1⟩:=g1.iface'
  refine⟨.bool false,?_,.d (.v _)⟩
  have hrun:=run_equal_held_nil (w:=w) t ti u hu
  have hgd:eqGuard .eql t x y (.iface ti u) .nilIface=pure () :=rfl
  simp only[execOp,ho,e1,e2,hgd]
  simp[binOp,hrun]
 ·rename_i hx hy
  obtain⟨⟨rfl,hcy,hu⟩,h⟩:=h
  obtain⟨cv,rfl⟩:∃cv,y= .const cv:=by
   cases y with
   |const cv=>exact⟨cv,rfl⟩
   |_=>simp[isConst] at hcy
  refine bM (xc ho hx hy fun w=> ?_) h
  have hrun:=run_equal_nil_nil (w:=w) t hu
  have hgd:(eqGuard .eql t x (.const cv) .nilIface .nilIface).run P w= .ok () w:=by simp[eqGuard]
  rw[Sem.run_bind,hgd,Result.andThen_ok]
  simp[binOp,hrun]
 ·rename_i xs ys hx hy
  split at h
  ·rename_i us vs hu hv
   obtain⟨h1,h2,h3⟩:=h
   have key:∀(ι:Nat→Option Nat) (M:Nat→Prop) (a:Act) (w:World),(∀y,y∈o.op.operands→RepA ι M w (a.eval y) (az env y))→a.eval x= .agg (us.map (Value.int .i64)).toArray∧a.eval y= .agg (vs.map (Value.int .i64)).toArray:=fun ι M a w hops=>by
    have g1:=hops x (aM ho (by simp[Op.operands]))
    have g2:=hops y (aM ho (by simp[Op.operands]))
    rw[hx,Hd hu] at g1
    rw[hy,Hd hv] at g2
    exact⟨g1.ints,g2.ints⟩
   have hrun:∀w,(eqGuard op t x y (.agg (us.map (Value.int .i64)).toArray) (.agg (vs.map (Value.int .i64)).toArray) >>= fun _=>Op.equal t (.agg (us.map (Value.int .i64)).toArray) (.agg (vs.map (Value.int .i64)).toArray)).run P w= .ok (decide (us=vs)) w:=fun w=>by
    cases op<;>simp only at h3<;>try exact h3.elim
    ·exact h1 us vs rfl h2.symm w
    ·exact h1 us vs rfl h2.symm w
   cases op<;>simp only at h3<;>try exact h3.elim
   ·refine bM (bJ fun ι M a w _ hops=>⟨.bool (decide (us=vs)),?_,.d (.v _)⟩) h3
    obtain⟨e1,e2⟩:=key ι M a w hops
    have he:execOp a.eval o=(do let r ←(eqGuard .eql t x y (.agg (us.map (Value.int .i64)).toArray) (.agg (vs.map (Value.int .i64)).toArray) >>= fun _=>Op.equal t (.agg (us.map (Value.int .i64)).toArray) (.agg (vs.map (Value.int .i64)).toArray));pure (.value (.bool r))):=by simp[execOp,ho,e1,e2,binOp]
    rw[he,Sem.run_bind,hrun w]
    rfl
   ·refine bM (bJ fun ι M a w _ hops=>⟨.bool (!decide (us=vs)),?_,.d (.v _)⟩) h3
    obtain⟨e1,e2⟩:=key ι M a w hops
    have he:execOp a.eval o=(do let r ←(eqGuard .neq t x y (.agg (us.map (Value.int .i64)).toArray) (.agg (vs.map (Value.int .i64)).toArray) >>= fun _=>Op.equal t (.agg (us.map (Value.int .i64)).toArray) (.agg (vs.map (Value.int .i64)).toArray));pure (.value (.bool !r))):=by simp[execOp,ho,e1,e2,binOp]
    rw[he,Sem.run_bind,hrun w]
    rfl
  ·split at h
   ·rename_i us vs hu hv
    obtain⟨h1,h3⟩:=h
    have key:∀(ι:Nat→Option Nat) (M:Nat→Prop) (a:Act) (w:World),(∀y,y∈o.op.operands→RepA ι M w (a.eval y) (az env y))→a.eval x= .agg (us.map Sc.v).toArray∧a.eval y= .agg (vs.map Sc.v).toArray:=fun ι M a w hops=>by
     have g1:=hops x (aM ho (by simp[Op.operands]))
     have g2:=hops y (aM ho (by simp[Op.operands]))
     rw[hx,He hu] at g1
     rw[hy,He hv] at g2
     exact⟨g1.scs,g2.scs⟩
    have hrun:∀w,(eqGuard op t x y (.agg (us.map Sc.v).toArray) (.agg (vs.map Sc.v).toArray) >>= fun _=>Op.equal t (.agg (us.map Sc.v).toArray) (.agg (vs.map Sc.v).toArray)).run P w= .ok (decide (us=vs)) w:=fun w=>by
     cases op<;>simp only at h3<;>try exact h3.elim
     ·exact h1 w
     ·exact h1 w
    cases op<;>simp only at h3<;>try exact h3.elim
    ·refine bM (bJ fun ι M a w _ hops=>⟨.bool (decide (us=vs)),?_,.d (.v _)⟩) h3
     obtain⟨e1,e2⟩:=key ι M a w hops
     have he:execOp a.eval o=(do let r ←(eqGuard .eql t x y (.agg (us.map Sc.v).toArray) (.agg (vs.map Sc.v).toArray) >>= fun _=>Op.equal t (.agg (us.map Sc.v).toArray) (.agg (vs.map Sc.v).toArray));pure (.value (.bool r))):=by simp[execOp,ho,e1,e2,binOp]
     rw[he,Sem.run_bind,hrun w]
     rfl
    ·refine bM (bJ fun ι M a w _ hops=>⟨.bool (!decide (us=vs)),?_,.d (.v _)⟩) h3
     obtain⟨e1,e2⟩:=key ι M a w hops
     have he:execOp a.eval o=(do let r ←(eqGuard .neq t x y (.agg (us.map Sc.v).toArray) (.agg (vs.map Sc.v).toArray) >>= fun _=>Op.equal t (.agg (us.map Sc.v).toArray) (.agg (vs.map Sc.v).toArray));pure (.value (.bool !r))):=by simp[execOp,ho,e1,e2,binOp]
     rw[he,Sem.run_bind,hrun w]
     rfl
   ·exact h.elim
 ·exact h.elim
theorem O3 {op:UnOp} {t:TypeId} {x:Operand} (ho:o.op= .unOp op t x) (h:wK op (az env x) K):dN P cx hyp env box nm o K:=by
 unfold wK at h
 split at h
 ·rename_i b hx
  refine bM (bJ fun ι M a w _ hops=>⟨.bool !b,?_,.d (.v _)⟩) h
  have h1:=hops x (aM ho (by simp[Op.operands]))
  rw[hx] at h1
  simp[execOp,ho,h1.ofV,Op.unary]
 ·rename_i k n hx
  refine bM (bJ fun ι M a w _ hops=>⟨.int k (k.wrap (0-n)),?_,.d (.v _)⟩) h
  have h1:=hops x (aM ho (by simp[Op.operands]))
  rw[hx] at h1
  simp[execOp,ho,h1.ofV,Op.unary,Op.intArith]
 ·exact h.elim
theorem O4 {s d:TypeId} {x:Operand} (ho:o.op= .convert s d x) (h:wJ P s d (az env x) K):dN P cx hyp env box nm o K:=by
 unfold wJ at h
 split at h
 ·rename_i k k' n hd hx
  obtain⟨hs,h⟩:=h
  obtain⟨sd,hs⟩:=Option.isSome_iff_exists.1 hs
  refine bM (bJ fun ι M a w _ hops=>⟨.int k (k.wrap n),?_,.d (.v _)⟩) h
  have h1:=hops x (aM ho (by simp[Op.operands]))
  rw[hx] at h1
  simp[execOp,ho,h1.ofV,convert,run_underlying hd,run_underlying hs,Conv.intToInt]
 ·exact h.elim
theorem O5 {t:TypeId} {y:Operand} (ho:o.op= .box t y) (h:G8 env nm t y K):dN P cx hyp env box nm o K:=
 ⟨_,fun _=>Og ho h.1,by simp,by simp,h.2⟩
theorem O6 {t:TypeId} (ho:o.op= .alloc t) (h:wL P nm t K):dN P cx hyp env box nm o K:=by
 unfold wL at h
 split at h
 ·rename_i i hi
  exact⟨_,fun _=>Oh ho (qX hi) h.1,by simp,by simp,h.2⟩
 ·exact h.elim
theorem run_places:∀(l:List Field) (w:World),wM P (l.map fun f=>(f.offset,f.type))=true→(l.mapM fun f=>Prod.mk f.offset<$>sizeOf f.type:Sem (List (Nat×Nat))).run P w= .ok (placesOf P (l.map fun f=>(f.offset,f.type))) w
 | [],w,_=>rfl
 |f::l,w,h=>by
  simp only[wM,List.map_cons,List.all_cons,Bool.and_eq_true] at h
  cases hj:tv P f.type with
  |none=>rw[hj] at h;simp at h
  |some j=>
   have ih:=run_places l w h.2
   simp only[List.mapM_cons,Sem.run_bind,Sem.run_map,fC hj,Result.andThen_ok,ih,Sem.run_pure]
   simp[placesOf,hj]
theorem O7 {t:TypeId} {parts:Array (Nat×Operand)} (ho:o.op= .build t parts) (h:wN P env t parts K):dN P cx hyp env box nm o K:=by
 unfold wN at h
 split at h
 ·rename_i i hi
  obtain⟨h1,h⟩:=h
  split at h
  ·rename_i fs hk
   obtain⟨fds,hu,rfl⟩:=yY hi hk
   obtain⟨hkn,h⟩:=h
   split at h
   ·rename_i l hl
    refine bM (Oy (places:=(placesOf P (fds.toList.map fun f=>(f.offset,f.type))).toArray) ho hu (qX hi) (fun w=> ?_) h1 (by simpa using hl)) h
    have:=run_places fds.toList w hkn
    rw[Array.mapM_eq_mapM_toList,Sem.run_map,this]
    rfl
   ·exact h.elim
  ·rename_i n e hk
   split at h
   ·rename_i j hj
    split at h
    ·rename_i l hl
     exact bM (Oz ho (wC hi hk) (qX hi) (fC hj) h1 hl) h
    ·exact h.elim
   ·exact h.elim
  ·exact h.elim
 ·exact h.elim
theorem O8 {t:TypeId} {len:Nat} {parts:Array (Nat×Operand)} (ho:o.op= .buildSlice t len parts) (h:wO P env nm t len parts K):dN P cx hyp env box nm o K:=by
 unfold wO at h
 split at h
 ·rename_i e hk
  simp only[Option.map_eq_some_iff] at hk
  obtain⟨i,hi,hk⟩:=hk
  split at h
  ·rename_i j hj
   obtain⟨⟨h1,h2,h3,h4⟩,h⟩:=h
   split at h
   ·rename_i l hl
    exact⟨_,fun _=>OA ho (ku hi hk) (qX hj) (fC hj) h1 h2 h3 h4 hl,by simp,by simp,h⟩
   ·exact h.elim
  ·exact h.elim
 ·exact h.elim
theorem O9 {ρ:Operand→AV} {t e:TypeId} {y:Operand} {lo hi:Option Operand} {bx k off n a b:Nat} (ho:o.op= .slice t y lo hi none) (ht:P.underlying t=some (.slice e)) (hk:∀w,(sizeOf e).run P w= .ok k w) (hy:ρ y= .osl bx k off n)
 (hlo:(lo=none∧a=0)∨∃z,lo=some z∧ρ z= .v (.int .i64 (a:Int))) (hhi:(hi=none∧b=n)∨∃z,hi=some z∧ρ z= .v (.int .i64 (b:Int)))
 (h1:a≤b) (h2:b≤n):Yields P cx o ρ ⟨[],.osl bx k (off+a*k) (b-a),[]⟩:=by
 refine bJ fun ι M ac w _ hops=> ?_
 have g1:=hops y (aM ho (by simp[Op.operands]))
 rw[hy] at g1
 have ev:∀z,z∈o.op.operands→∀n:Nat,ρ z= .v (.int .i64 (n:Int))→ac.eval z= .int .i64 (n:Int):=fun z hz n hn=>by
  have:=hops z hz
  rw[hn] at this
  exact this.ofV
 have hlo':(lo.map ac.eval=none∧a=0)∨lo.map ac.eval=some (.int .i64 (a:Int)):=by
  rcases hlo with⟨rfl,rfl⟩|⟨z,rfl,hz⟩
  ·exact .inl ⟨rfl,rfl⟩
  ·exact .inr (by simp[ev z (aM ho (by simp[Op.operands])) a hz])
 have hhi':(hi.map ac.eval=none∧b=n∧(none:Option Operand).map ac.eval=none)∨hi.map ac.eval=some (.int .i64 (b:Int)):=by
  rcases hhi with⟨rfl,rfl⟩|⟨z,rfl,hz⟩
  ·exact .inl ⟨rfl,rfl,rfl⟩
  ·exact .inr (by simp[ev z (aM ho (by simp[Op.operands])) b hz])
 rcases g1.osl' with⟨g,cap,c,ty,hv,hg,hnc,hcm,hh,hsz⟩|⟨rfl,A,hv⟩
 ·have hrun:=Cy (P:=P) (w:=w) (cap:=cap) hlo' hhi' (mx:=(none:Option Operand).map ac.eval) (.inl ⟨rfl,rfl⟩) h1 byOmega (Nat.le_refl _)
  simp only[Option.map_none] at hrun
  refine⟨_,by simp[execOp,ho,Instr.sliceAt,Instr.slice,run_underlying ht,hv,hrun,hk];rfl,?_⟩
  by_cases hca:cap=a
  ·subst hca
   have h3:b-cap=0:=byOmega
   simp only[h3,Nat.sub_self,if_true]
   exact .osl0 _ _ _ _
  ·simp only[hca,if_false,Option.map_some]
   have had:(Addr.mk g off none).add (a*k)=Addr.mk g (off+a*k) none:=by
    simp only[Addr.add]
    split
    ·rename_i h0;rw[h0];rfl
    ·rfl
   rw[had]
   refine .osl (c:=c) (t:=ty) hg byOmega byOmega hh ?_
   have:(cap-a)*k+a*k=cap*k:=by rw[←Nat.add_mul,Nat.sub_add_cancel byOmega]
   omega
 ·obtain rfl:b=0:=byOmega
  obtain rfl:a=0:=byOmega
  have hrun:=Cy (P:=P) (w:=w) (cap:=0) hlo' hhi' (mx:=(none:Option Operand).map ac.eval) (.inl ⟨rfl,rfl⟩) h1 byOmega (Nat.le_refl _)
  simp only[Option.map_none] at hrun
  refine⟨.slice A 0 0,by simp[execOp,ho,Instr.sliceAt,Instr.slice,run_underlying ht,hv,hrun,hk],.osl0 _ _ _ _⟩
theorem Pb {ρ:Operand→AV} {t e:TypeId} {k bnm n m:Nat} {z:Value} {i:TypeInfo} {x y:Operand} (ho:o.op= .makeSlice t x y) (hu:P.underlying t=some (.slice e)) (hz:∀w,(zeroValue e).run P w= .ok z w) (hk:∀w,(sizeOf e).run P w= .ok k w) (hi:P.info? e=some i)
 (hx:ρ x= .v (.int .i64 (n:Int))) (hy:ρ y= .v (.int .i64 (m:Int))) (hzk:z.cells.size=k) (hk0:0<k) (h1:z.cells.all (·.oneCell')=true) (hnm:n≤m) (hby:m*i.bytes≤140737488355328) (hml:m≤maxLen):
 Yields P cx o ρ ⟨[],.osl bnm k 0 n,[(bnm,some ⟨e,lX z k n⟩)]⟩:=by
 refine yQ fun ι M a w hops=> ?_
 have gx:=hops x (aM ho (by simp[Op.operands]))
 rw[hx] at gx
 have gy:=hops y (aM ho (by simp[Op.operands]))
 rw[hy] at gy
 have hml':m≤9223372036854775807:=hml
 have wn:IntKind.i64.wrap (n:Int)=n:=by unfold IntKind.wrap;simp[IntKind.bits,IntKind.signed];omega
 have w0:IntKind.i64.wrap 0=0:=rfl
 have wm:IntKind.i64.wrap (m:Int)=m:=by unfold IntKind.wrap;simp[IntKind.bits,IntKind.signed];omega
 generalize hc0:(if m*k=0 then #[] else z.cells)=zc
 have hcells:(Array.range (m*k)).map (zc[·%zc.size]!)=(Array.range (m*k)).map (z.cells[·%z.cells.size]!):=by
  by_cases h0:m*k=0
  ·simp[h0]
  ·rw[if_neg h0] at hc0;rw[hc0]
 refine⟨.slice (some ⟨w.heap.size,0,none⟩) n m,(Array.range (m*k)).map (zc[·%zc.size]!),?_,?_,?_,fun ι' M' h=> .osl h hnm hml (heap_alloc_new w _) ai⟩
 ·have hb:¬(2:Int) ^ 48<(i.bytes:Int)*m:=by
   have:((m*i.bytes:Nat):Int)≤140737488355328:=byOmega
   rw[Int.natCast_mul] at this
   rw[Int.mul_comm]
   omega
  have hrm:¬m*i.bytes>roomBytes:=by show ¬m*i.bytes>140737488355328;omega
  have hti:(typeInfo e).run P w= .ok i w:=by simp[typeInfo,hi]
  by_cases h0:m*k=0
  ·simp only[h0,if_true] at hc0
   subst hc0
   have hm0:m=0:=by rcases Nat.mul_eq_zero.1 h0 with h|h<;>omega
   subst hm0
   obtain rfl:n=0:=byOmega
   simp[execOp,ho,Instr.makeSlice,run_underlying hu,gx.ofV,gy.ofV,hti,w0,asInt,asIntOf,askRoom,roomBytes,hk,newRow,newObj,Sem.run]
  ·simp only[h0,if_false] at hc0
   subst hc0
   simp[execOp,ho,Instr.makeSlice,run_underlying hu,gx.ofV,gy.ofV,hti,wn,wm,asInt,asIntOf,askRoom,hrm,hk,hz,h0,hb,newRow,newObj,Sem.run,Int.not_lt.2 (Int.natCast_nonneg m),Int.not_lt.2 (Int.natCast_nonneg n),show ¬(m:Int)<n by omega]
   intro hc
   omega
 ·show(lX z k n).length≤_
  have:n*k≤m*k:=Nat.mul_le_mul_right _ hnm
  simp[lX]
  omega
 ·intro j v w' hv hw
  have hw:(lX z k n)[j]? =some w':=hw
  rw[hcells] at hv
  obtain⟨e1,e2,e3⟩:=GH z.cells byOmega _ _ _ hv
  have hj:j<n*k:=by
   have:=(List.getElem?_eq_some_iff.1 hw).1
   simpa[lX] using this
  rw[lX,List.getElem?_map,List.getElem?_range hj] at hw
  simp only[Option.map_some,Option.some.injEq] at hw
  subst hw
  rw[hzk] at e2
  exact⟨(Array.all_eq_true_iff_forall_mem.1 h1) v (by simpa using e3),by rw[e2];exact .d (.v _)⟩
theorem Pd {t:TypeId} {x y:Operand} (ho:o.op= .makeSlice t x y) (h:wQ P nm t (az env x) (az env y) K):dN P cx hyp env box nm o K:=by
 unfold wQ at h
 split at h
 ·rename_i e n m hk hx hy
  simp only[Option.map_eq_some_iff] at hk
  obtain⟨i,hi',hk⟩:=hk
  split at h
  ·rename_i j hj
   obtain⟨⟨h1,h2,h3,h4,h5,h6,h7⟩,h8⟩:=h
   obtain⟨ti,d,q1,-,-,-,q5,-⟩:=pG hj
   have en:n=(n.toNat:Int):=byOmega
   have em:m=(m.toNat:Int):=byOmega
   rw[en] at hx
   rw[em] at hy
   exact⟨_,fun _=>Pb (bnm:=nm) ho (ku hi' hk) (qX hj) (fC hj) q1 hx hy h1 h2 h3 byOmega (by rw[q5];exact h6) h7,by simp,by simp,h8⟩
  ·exact h.elim
 ·exact h.elim
theorem Pe {ρ:Operand→AV} {t e:TypeId} {y:Operand} {l:List AV} {n:Nat} (ho:o.op= .slice t y none none none) (ht:P.underlying t=some (.array n e)) (hk:∀w,(sizeOf e).run P w= .ok 1 w) (hy:ρ y= .pp l) (hn:n≤l.length) (hm:n≤maxLen):
 Yields P cx o ρ ⟨[],.sl false 1 ((l.take n).map fun x=>[x]),[]⟩:=by
 refine bJ fun ι M ac w _ hops=> ?_
 have g1:=hops y (aM ho (by simp[Op.operands]))
 rw[hy] at g1
 generalize hev:ac.eval y=u at *
 cases g1 with
 |d g1=>
  cases g1 with
  | @pp g off _ x hM hg hl hx=>
    have hb:(Instr.sliceBounds false n n none none none).run P w= .ok (0,n,n) w:=by simp[Instr.sliceBounds]
    refine⟨.slice (some ⟨g,off,none⟩) n n,?_,.d (.sl g off (fun i j=>x (i+j)) (by simp;omega) (Nat.le_refl _) hm (fun h=>by cases h) (fun row hr=> ?_) (fun _=>⟨rfl,hM,hg⟩) (fun i j hi hj=> ?_) (fun i row j z hi hj=> ?_))⟩
    ·have hu:ac.eval y= .pointer (some ⟨g,off,none⟩):=hev
     have h0:(Addr.mk g off none).add (0*1)=⟨g,off,none⟩:=rfl
     simp[execOp,ho,Instr.sliceAt,run_underlying ht,hu,Instr.sureAddr,hb,hk,h0]
    ·obtain⟨z,-,rfl⟩:=List.mem_map.1 hr;rfl
    ·obtain rfl:j=0:=byOmega
     have:=hl i (by simp at hi;omega)
     simpa using this
    ·rw[List.getElem?_map,Option.map_eq_some_iff] at hi
     obtain⟨q,hq,rfl⟩:=hi
     rcases j with _|j
     ·simp at hj
      subst hj
      refine hx i q ?_
      have hin:i<n:=by have:=(List.getElem?_eq_some_iff.1 hq).1;simp at this;omega
      rw[List.getElem?_take,if_pos hin] at hq
      exact hq
     ·simp at hj
theorem Pf {t:TypeId} {y:Operand} {lo hi mx:Option Operand} (ho:o.op= .slice t y lo hi mx) (h:wP P env t y lo hi mx K):dN P cx hyp env box nm o K:=by
 unfold wP at h
 split at h
 ·rename_i e full k l hk hy
  simp only[Option.map_eq_some_iff] at hk
  obtain⟨i,hi',hk⟩:=hk
  obtain⟨hj,a,b,f',h1,h2,h3,h4,h5,h6⟩:=h
  split at hj
  ·rename_i j hj'
   subst hj
   exact bM (Ou ho (ku hi' hk) (fC hj') hy h1 h2 h3 h4 h5) h6
  ·exact hj.elim
 ·rename_i e bx k off n hk hy
  simp only[Option.map_eq_some_iff] at hk
  obtain⟨i,hi',hk⟩:=hk
  obtain⟨hj,a,b,h1,h2,h3,h4,h5,h6⟩:=h
  subst h3
  split at hj
  ·rename_i j hj'
   subst hj
   exact bM (O9 ho (ku hi' hk) (fC hj') hy h1 h2 h4 h5) h6
  ·exact hj.elim
 ·rename_i n e l hk hy
  simp only[Option.map_eq_some_iff] at hk
  obtain⟨i,hi',hk⟩:=hk
  obtain⟨rfl,rfl,rfl,hj,h1,h2,h3⟩:=h
  split at hj
  ·rename_i j hj'
   exact bM (Pe ho (wC hi' hk) (fun w=>by have:=fC hj' (P:=P) w;rw[hj] at this;exact this) hy h1 h2) h3
  ·exact hj.elim
 ·exact h.elim
theorem Pg {t:TypeId} {y:Operand} (ho:o.op= .call {callee:= .builtin .len,args:= #[y],argTypes:= #[t]}) (h:wR P t (az env y) K):dN P cx hyp env box nm o K:=by
 unfold wR at h
 split at h
 ·rename_i e hk
  simp only[Option.map_eq_some_iff] at hk
  obtain⟨i,hi,hk⟩:=hk
  split at h
  ·rename_i full k l hy
   exact bM (Oj ho (ku hi hk) hy) h
  ·rename_i b k off n hy
   exact bM (Ol ho (ku hi hk) hy) h
  ·rename_i A n c hy
   exact bM (Om ho (ku hi hk) hy) h
  ·exact h.elim
 ·exact h.elim
theorem Ph {k:Nat} {x:AV} {fpx:List (Nat×Bx)} {m:Nat} {news:List AV} (h:rf box k x=some (fpx,m,news)):IsSrc x fpx k m news∧∀b y,(b,y)∈fpx→ah box b=some y:=by
 unfold rf at h
 split at h
 ·rename_i f k' l
  split at h
  ·rename_i hk;subst hk
   simp at h;obtain⟨rfl,rfl,rfl⟩:=h
   exact⟨.sl rfl,by simp⟩
  ·cases h
 ·rename_i b k' off m'
  split at h
  ·rename_i hk;subst hk
   split at h
   ·rename_i bx hb
    split at h
    ·rename_i hle
     simp at h;obtain⟨rfl,rfl,rfl⟩:=h
     refine⟨.osl hle,fun b' y' h=> ?_⟩
     simp at h
     rw[h.1,h.2]
     exact hb
    ·cases h
   ·cases h
  ·cases h
 ·simp at h;obtain⟨rfl,rfl,rfl⟩:=h
  exact⟨.nil,by simp⟩
 ·cases h
theorem Pi {t:TypeId} {s x:Operand} (ho:o.op= .call {callee:= .builtin .append,args:= #[s,x],argTypes:= #[t,t]}) (h:appW P env box nm t s x K):dN P cx hyp env box nm o K:=by
 unfold appW at h
 split at h
 ·rename_i e hk
  simp only[Option.map_eq_some_iff] at hk
  obtain⟨i,hi,hk⟩:=hk
  split at h
  ·rename_i j hj
   obtain⟨⟨hz,h0⟩,h⟩:=h
   split at h
   ·rename_i fpx m news hsrc
    obtain⟨hs1,hs2⟩:=Ph hsrc
    obtain⟨hnm,h⟩:=h
    have hnm':∀y,(nm,y)∉fpx:=fun y hy=>by
     have:=List.all_eq_true.1 hnm _ hy
     simp at this
    split at h
    ·rename_i b0 k n hb0
     split at h
     ·rename_i bx hbx
      obtain⟨⟨rfl,hcs,ht,hne⟩,⟨h63,hby⟩,hK⟩:=h
      refine⟨_,fun _=>OE ho (ku hi hk) (CL hj) hz h0 hb0 hcs ht hs1 hne hnm' h63 hby,?_,?_,hK⟩
      ·intro b y hy
       rcases List.mem_cons.1 hy with h|h
       ·injection h with h1 h2;subst h1 h2;exact hbx
       ·exact hs2 b y h
      ·intro b y hy
       simp at hy
       exact .inr (by have:=hy.1;omega)
     ·exact h.elim
    ·rename_i full k l hs
     obtain⟨⟨rfl,rfl⟩,hm,⟨h63,hby⟩,hK⟩:=h
     refine⟨_,fun _=>GN ho (ku hi hk) (CL hj) hz h0 (.inl hs) rfl hs1 hnm' hm h63 hby,hs2,?_,hK⟩
     intro b y hy
     simp at hy
     exact .inr (by have:=hy.1;omega)
    ·rename_i hs
     obtain⟨⟨h63,hby⟩,hK⟩:=h
     have hy:=GN (cx:=cx) (l:=[]) (b:=nm) ho (ku hi hk) (CL hj) hz h0 (.inr ⟨hs,rfl⟩) rfl hs1 hnm' (.inr rfl) (by simpa using h63) (by simpa using hby)
     simp only[List.length_nil,Nat.zero_add,List.flatten_nil,List.nil_append] at hy
     refine⟨_,fun _=>hy,hs2,?_,hK⟩
     intro b y hy
     simp at hy
     exact .inr (by have:=hy.1;omega)
    ·exact h.elim
   ·exact h.elim
  ·exact h.elim
 ·exact h.elim
theorem RepA.mp' {ι:Nat→Option Nat} {M:Nat→Prop} {w:World} {v:Value} {es:Array MapEntry} {c:Nat} (h:RepA ι M w v (.mp es c)):∃r,v= .map (some r)∧w.heap[r]? =some (.map es c):=by
 cases h with
 |d h=>cases h with
  |mp hM hr=>exact⟨_,rfl,hr⟩
theorem Pj {ι:Nat→Option Nat} {M:Nat→Prop} {w:World} (v:Value):RepA ι M w v (ofV v):=by
 unfold ofV
 split
 ·exact .d (.fn rfl rfl ai ai)
 ·exact .d (.v _)
theorem Pk {t:TypeId} {m k:Operand} {comma:Bool} (ho:o.op= .lookup t m k comma) (h:wT P t (az env m) (az env k) comma K):dN P cx hyp env box nm o K:=by
 unfold wT at h
 split at h
 ·rename_i es c n kt et hm hk hu
  obtain⟨⟨rfl,hkt⟩,h⟩:=h
  have key:∀(ι:Nat→Option Nat) (M:Nat→Prop) (a:Act) (w:World),(∀y,y∈o.op.operands→RepA ι M w (a.eval y) (az env y))→∃r,a.eval m= .map (some r)∧w.heap[r]? =some (.map es c)∧a.eval k= .int .i64 n:=fun ι M a w hops=>by
   have g1:=hops m (aM ho (by simp[Op.operands]))
   have g2:=hops k (aM ho (by simp[Op.operands]))
   rw[hm] at g1
   rw[hk] at g2
   obtain⟨r,e1,e2⟩:=g1.mp'
   exact⟨r,e1,e2,g2.ofV⟩
  split at h
  ·rename_i i v hf
   refine bM (bJ fun ι M a w _ hops=> ?_) h
   obtain⟨r,e1,e2,e3⟩:=key ι M a w hops
   refine⟨.tuple #[v,.bool true],?_,.tup rfl ?_⟩
   ·have hrun:(Instr.lookup t (.map (some r)) (.int .i64 n) true).run P w= .ok (.tuple #[v,.bool true]) w:=by
     simp only[Instr.lookup,Sem.run_bind,Sem.run_pure,run_underlying hu,Result.andThen_ok,MapKept.run_getObj_map e2,MapKept.run_checkKey hkt (show MapKept.IsKey (.int .i64) (.int .i64 n) from rfl),MapKept.run_findKey hkt hf,if_true]
    simp[execOp,ho,e1,e3,hrun]
   ·intro i x y hx hy
    rcases i with _|_|i
    ·simp at hx hy;subst hx hy;exact Pj _
    ·simp at hx hy;subst hx hy;exact .d (.v _)
    ·simp at hy
  ·rename_i hf
   split at h
   ·rename_i ti hti
    have hz:=qX hti
    refine bM (bJ fun ι M a w _ hops=> ?_) h
    obtain⟨r,e1,e2,e3⟩:=key ι M a w hops
    refine⟨.tuple #[ti.zero,.bool false],?_,.tup rfl ?_⟩
    ·have hrun:(Instr.lookup t (.map (some r)) (.int .i64 n) true).run P w= .ok (.tuple #[ti.zero,.bool false]) w:=by
      simp only[Instr.lookup,Sem.run_bind,Sem.run_pure,run_underlying hu,Result.andThen_ok,MapKept.run_getObj_map e2,MapKept.run_checkKey hkt (show MapKept.IsKey (.int .i64) (.int .i64 n) from rfl),MapKept.run_findKey hkt hf,hz,if_true]
     simp[execOp,ho,e1,e3,hrun]
    ·intro i x y hx hy
     rcases i with _|_|i
     ·simp at hx hy;subst hx hy;exact .d (.v _)
     ·simp at hx hy;subst hx hy;exact .d (.v _)
     ·simp at hy
   ·exact h.elim
  ·exact h.elim
 ·exact h.elim
theorem Pm {t s:TypeId} {y:Operand} {comma:Bool} (ho:o.op= .typeAssert y s t comma) (h:wU P t (az env y) comma K):dN P cx hyp env box nm o K:=by
 unfold wU at h
 split at h
 ·split at h
  ·rename_i u x hx
   split at h
   ·rename_i e
    have e:=Nat.eq_of_beq_eq_true e
    subst e
    refine bM (bJ fun ι M a w _ hops=> ?_) h.2
    have g1:=hops y (aM ho (by simp[Op.operands]))
    rw[hx] at g1
    generalize e1:a.eval y=vy at g1
    cases g1 with
    |d g=>cases g
    | @iface _ v _ g=>
      have hcn:=h.1
      obtain⟨d,hu,hd⟩:∃d,P.underlying u=some d∧∀ms,d≠ .interface ms:=by
       unfold Program.concrete at hcn
       cases hu:P.underlying u with
       |none=>rw[hu] at hcn;cases hcn
       |some d=>exact⟨d,rfl,fun ms e=>by subst e;rw[hu] at hcn;cases hcn⟩
      refine⟨v,?_,g⟩
      cases d with
      |interface ms=>exact absurd rfl (hd ms)
      |_=>simp[execOp,ho,e1,Instr.typeAssert,run_underlying hu]
   ·exact h.elim
  ·exact h.elim
 ·split at h
  ·rename_i i hi
   split at h
   ·rename_i fs hk
    obtain⟨fds,hu,-⟩:=yY hi hk
    have hz:=qX hi
    split at h
    ·rename_i u x hx
     split at h
     ·rename_i e
      have e:=Nat.eq_of_beq_eq_true e
      subst e
      refine bM (bJ fun ι M a w _ hops=> ?_) h
      have g1:=hops y (aM ho (by simp[Op.operands]))
      rw[hx] at g1
      generalize e1:a.eval y=vy at g1
      cases g1 with
      |d g=>cases g
      | @iface _ v _ g=>
        refine⟨.tuple #[v,.bool true],by simp[execOp,ho,e1,Instr.typeAssert,run_underlying hu],.tup rfl ?_⟩
        intro i x y hx hy
        rcases i with _|_|i
        ·simp at hx hy;subst hx hy;exact g
        ·simp at hx hy;subst hx hy;exact .d (.v _)
        ·simp at hy
     ·rename_i e
      have e:=Nat.ne_of_beq_eq_false e
      refine bM (bJ fun ι M a w _ hops=> ?_) h
      have g1:=hops y (aM ho (by simp[Op.operands]))
      rw[hx] at g1
      obtain⟨v,e1⟩:=g1.iface'
      refine⟨.tuple #[i.zero,.bool false],by simp[execOp,ho,e1,Instr.typeAssert,run_underlying hu,e,hz],.tup rfl ?_⟩
      intro i x y hx hy
      rcases i with _|_|i
      ·simp at hx hy;subst hx hy;exact .d (.v _)
      ·simp at hx hy;subst hx hy;exact .d (.v _)
      ·simp at hy
    ·rename_i hx
     refine bM (bJ fun ι M a w _ hops=> ?_) h
     have g1:=hops y (aM ho (by simp[Op.operands]))
     rw[hx] at g1
     have e1:=g1.ofV
     refine⟨.tuple #[i.zero,.bool false],by simp[execOp,ho,e1,Instr.typeAssert,run_underlying hu,hz],.tup rfl ?_⟩
     intro i x y hx hy
     rcases i with _|_|i
     ·simp at hx hy;subst hx hy;exact .d (.v _)
     ·simp at hx hy;subst hx hy;exact .d (.v _)
     ·simp at hy
    ·exact h.elim
   ·exact h.elim
  ·exact h.elim
theorem Pn {t:TypeId} {y z:Operand} (ho:o.op= .index t y z) (h:wV P hyp t (az env y) (az env z) K):dN P cx hyp env box nm o K:=by
 unfold wV at h
 split at h
 ·rename_i n e l k i e1 e2 e3
  split at h
  ·rename_i j hj
   split at h
   ·rename_i x hx
    obtain⟨h1,h2⟩:=h
    rw[Option.map_eq_some_iff] at e1
    obtain⟨ti,hti,hk⟩:=e1
    exact tZ (fun hh=>Ox ho (wC hti hk) (qY hj) (fC hj) e2 e3 (h1 hh).1 (h1 hh).2 hx) h2
   ·exact h.elim
  ·exact h.elim
 ·exact h.elim
theorem Hf {x y:Operand} {ats:Array TypeId} {mx:Bool} (ho:o.op= .call {callee:= .builtin (cond mx .max .min),args:= #[x,y],argTypes:=ats}) (h:tV mx (az env x) (az env y) K):dN P cx hyp env box nm o K:=by
 unfold tV at h
 split at h
 ·rename_i k a k' b hx hy
  obtain⟨rfl,h⟩:=h
  refine bM (bJ fun ι M ac w _ hops=> ?_) h
  have g1:=hops x (aM ho (by simp[Op.operands,Call.operands]))
  have g2:=hops y (aM ho (by simp[Op.operands,Call.operands]))
  rw[hx] at g1
  rw[hy] at g2
  refine⟨_,?_,.d (.v _)⟩
  cases mx
  ·simp[execOp,ho,resolve,invoke,builtin,g1.ofV,g2.ofV,Builtin.min_,Builtin.min2]
   split<;>omega
  ·simp[execOp,ho,resolve,invoke,builtin,g1.ofV,g2.ofV,Builtin.max_,Builtin.max2]
   split<;>omega
 ·exact h.elim
theorem Po {y:Operand} {i:Nat} (ho:o.op= .extract y i) (h:wW (az env y) i K):dN P cx hyp env box nm o K:=by
 unfold wW at h
 split at h
 ·rename_i l hy
  split at h
  ·rename_i x hx
   exact bM (Ov ho hy hx) h
  ·exact h.elim
 ·exact h.elim
theorem Pp {t:TypeId} {y:Operand} {f:Nat} (ho:o.op= .field t y f) (h:wX P t (az env y) f K):dN P cx hyp env box nm o K:=by
 unfold wX at h
 split at h
 ·rename_i fs l hk hy
  simp only[Option.map_eq_some_iff] at hk
  obtain⟨i,hi,hk⟩:=hk
  obtain⟨fds,hu,rfl⟩:=yY hi hk
  split at h
  ·rename_i fo ft hf
   simp only[List.getElem?_map,Option.map_eq_some_iff] at hf
   obtain⟨fd,hfd,he⟩:=hf
   injection he with e1 e2
   subst e1 e2
   have hfd':fds[f]? =some fd:=by simpa using hfd
   split at h
   ·rename_i j hj
    split at h
    ·rename_i x hx
     exact bM (Ow ho hu hfd' (qY hj) (fC hj) hy hx) h
    ·exact h.elim
   ·exact h.elim
  ·exact h.elim
 ·exact h.elim
theorem Hg:∀ {l:List Operand},tY hyp env l→hyp→∀y,y∈l→(aI env y).cnd=true
 | [],_,_,y,h=>by simp at h
 |x::l,h,hh,y,hy=>by
  rcases List.mem_cons.1 hy with rfl|hy
  ·exact G9 h.1 hh
  ·exact Hg h.2 hh y hy
theorem Yields.strip {S:OpS} (h:Yields P cx o (az env) S) (hc:∀y,y∈o.op.operands→(aI env y).cnd=true):Yields P cx o (aI env) S:=
 fun ι box used a w h1 h2 h3 h4 h5=>h ι box used a w h1 h2 h3 h4 fun y hy=>(h5 y hy).strip (hc y hy)
theorem Pq {y:Operand} (ho:o.op= .nilCheck y) (h:y9 (az env y) K):dN P cx hyp env box nm o K:=by
 unfold y9 at h
 split at h
 ·rename_i b off hy
  refine bM (bJ fun ι M a w _ hops=> ?_) h
  have h1:=hops y (aM ho (by simp[Op.operands]))
  rw[hy] at h1
  obtain⟨g,hg,hv⟩:=h1.ptr'
  refine⟨.pointer (some ⟨g,off,none⟩),?_,.ptr hg⟩
  simp[execOp,ho,hv]
 ·exact h.elim
theorem Ps (h:bX P cx hyp env box nm o K):dN P cx hyp env box nm o K:=by
 unfold bX at h
 split at h
 ·rename_i y ho;exact bM (Gx (.inl ho)) h
 ·rename_i y ho;exact bM (Gx (.inr ho)) h
 ·rename_i ho;exact OW ho h
 ·rename_i ho;exact OX ho h
 ·rename_i ho;exact OY ho h
 ·rename_i ho;exact O0 ho h
 ·rename_i ho;exact O1 ho h
 ·rename_i ho;exact O3 ho h
 ·rename_i ho;exact O4 ho h
 ·rename_i ho;exact O5 ho h
 ·rename_i ho;exact O6 ho h
 ·rename_i ho;exact O7 ho h
 ·rename_i ho;exact O8 ho h
 ·rename_i ho;exact Pf ho h
 ·rename_i ho;exact Pd ho h
 ·rename_i ho;exact Po ho h
 ·rename_i ho;exact bM (OC ho h.1) h.2
 ·rename_i ho;exact Pm ho h
 ·rename_i ho;exact Pn ho h
 ·rename_i ho;exact Pk ho h
 ·rename_i ho;exact Pp ho h
 ·rename_i ho;exact bM (OB ho) h
 ·rename_i c ho
  obtain⟨callee,args,ats⟩:=c
  unfold wZ at h
  simp only at h
  split at h
  ·exact h (yU ho)
  ·rename_i y h1 h2
   split at h
   ·rename_i f first caps hf;exact h (OG ho hf)
   ·rename_i f hf;exact h (OH ho hf)
   ·exact h
  ·rename_i h1 h2
   have e1:args= #[_]:=congrArg List.toArray h1
   have e2:ats= #[_]:=congrArg List.toArray h2
   subst e1 e2
   exact Pg ho h
  ·rename_i h1
   have e1:args= #[_,_]:=congrArg List.toArray h1
   subst e1
   exact Hf (mx:=true) ho h
  ·rename_i h1
   have e1:args= #[_,_]:=congrArg List.toArray h1
   subst e1
   exact Hf (mx:=false) ho h
  ·rename_i h1 h2
   have e1:args= #[_,_]:=congrArg List.toArray h1
   have e2:ats= #[_,_]:=congrArg List.toArray h2
   subst e1 e2
   obtain⟨rfl,h⟩:=h
   exact Pi ho h
  ·exact h
 ·rename_i y ho;exact Pq ho h
 ·exact h
theorem CP (h:iK P cx hyp env box nm o K):stepW P cx hyp env box nm o K:=by
 unfold iK at h
 split at h
 ·rename_i c p q ho
  unfold yZ at h
  split at h
  ·rename_i t ht
   obtain⟨⟨h1,h2,h3⟩,h4⟩:=h
   exact⟨_,fun hh=>Oa ho ht (G9 h1 hh) (Ha h2 hh) (Ha h3 hh),by simp,by simp,h4⟩
  ·exact h.elim
 ·obtain⟨S,h1,h2,h3,h4⟩:=Ps h.2
  exact⟨S,fun hh=>(h1 hh).strip fun y hy=>Hg h.1 hh y (by simpa using hy),h2,h3,h4⟩
end
end Go.Proofs.YtlikpcpllahalaaGreat.V
