/- Parts of the proof. -/
import Derived.Test.YtlikpcpllahalaaGreatG15
import Derived.Test.YtlikpcpllahalaaGreatG14
import Derived.Test.YtlikpcpllahalaaGreatG13
set_option linter.unusedSimpArgs false
set_option linter.unusedVariables false
namespace Go.Proofs.YtlikpcpllahalaaGreat.V
open Go.RowKit
set_option maxRecDepth 100000
section
def ow (P:Program) (t:TypeId) (name:String) (f:FuncId) (e:TypeId):Prop:=
 ∀(a:Addr) (us:Array Value) (w:World) (v:Value),(loadVar e a).run P w= .ok v w→(callMethod (.iface t (.pointer (some a))) name us).run P w= .ok (.enter f (#[v]++us)) w
section
variable {P:Program} {cx:Cx}
theorem IZ {o:Oper} {ρ:Operand→AV} {S S':OpS} (hx:S'.x=S.x) (ht:S'.tb=S.tb) (hf:∀b x,(b,x)∈S'.fp→(b,x)∈S.fp) (hd:∀b x,(b,some x)∈S.tb→(∃y,(b,y)∈S.fp)→∃y,(b,y)∈S'.fp)
 (h:∀ι box (used:Nat→Prop) (a:Act) w,HSat cx ι box used w→(∀b x,(b,x)∈S.fp→box b=some x)→(∀y,y∈o.op.operands→RepA ι (Mof cx ι box) w (a.eval y) (ρ y))→
   ∃(op':Op) (ρ':Operand→AV),(execOp a.eval {o with op:=op'}).run P w=(execOp a.eval o).run P w∧Yields P cx {o with op:=op'} ρ' S'∧∀y,y∈op'.operands→RepA ι (Mof cx ι box) w (a.eval y) (ρ' y)):Yields P cx o ρ S:=by
 intro ι box used a w hh hdef hfp hfr hops K Q hK
 obtain⟨op',ρ',hex,hy,hop⟩:=h ι box used a w hh hfp hops
 have hw:Oper.wp P {o with op:=op'} a w K Q=Oper.wp P o a w K Q:=by
  unfold Oper.wp
  rw[hex]
  rfl
 rw[←hw]
 refine hy ι box used a w hh hdef (fun b x hb=>hfp b x (hf b x hb)) (fun b x hb=> ?_) hop K Q fun v ι' w' hs hv=> ?_
 ·rw[ht] at hb
  rcases hfr b x hb with h1|h1
  ·exact .inl (hd b x hb h1)
  ·exact .inr h1
 ·rw[ht] at hs hv
  rw[hx] at hv
  exact hK v ι' w' hs hv
def uy (ρ:Operand→AV) (x:AV):Operand→AV
 | .const (.slice _ _ _)=>x
 | .func _=> .any
 |y=>ρ y
def lw:Operand→Bool
 | .const (.slice _ _ _)=>false
 | .func _=>false
 |_=>true
theorem I1 {ρ:Operand→AV} {x:AV} {y:Operand} (h:lw y=true):uy ρ x y=ρ y:=by
 unfold uy
 split
 ·simp[lw] at h
 ·simp[lw] at h
 ·rfl
theorem I4 {o:Oper} {c:Operand} {name:String} {t e:TypeId} {f:FuncId} {args:Array Operand} {ats:Array TypeId} (ho:o.op= .call {callee:= .invoke c name,args:=args,argTypes:=ats}) (hI:ow P t name f e) (hc:bn P f) {a:Act} {w:World} {ad:Addr} {v:Value}
 (hv:a.eval c= .iface t (.pointer (some ad))) (hl:(loadVar e ad).run P w= .ok v w):
 (execOp a.eval {o with op:= .call {callee:= .value (.func f),args:= #[.const v]++args,argTypes:=ats}}).run P w=(execOp a.eval o).run P w:=by
 have h1:=hI ad (args.map a.eval) w v hl
 have h2:=hc (#[v]++args.map a.eval) w
 have e1:(execOp a.eval {o with op:= .call {callee:= .value (.func f),args:= #[.const v]++args,argTypes:=ats}}).run P w= .ok (.enter f (#[v]++args.map a.eval)) w:=by
  simp[execOp,resolve,invoke,Act.eval,Deferred.ofValue] at h2 ⊢
  exact h2
 have e2:(execOp a.eval o).run P w= .ok (.enter f (#[v]++args.map a.eval)) w:=by
  have e0:(#[Value.iface t (.pointer (some ad))]++args.map a.eval)[0]? =some (Value.iface t (.pointer (some ad))):=by rw[Array.getElem?_append_left ai];rfl
  have e3:(#[Value.iface t (.pointer (some ad))]++args.map a.eval).extract 1 (#[Value.iface t (.pointer (some ad))]++args.map a.eval).size=args.map a.eval:=by simp
  simp only[execOp,ho,resolve,invoke,Sem.run_bind,Sem.run_pure,Result.andThen_ok,hv,e0,e3]
  exact h1
 rw[e1,e2]
theorem I5 {ι:Nat→Option Nat} {box:Nat→Option Bx} {used:Nat→Prop} {a:Act} {w:World} {ρ:Operand→AV} {c:Operand} {t e:TypeId} {b off n k oo on ob:Nat} {bx:Bx} {ag:Bool} (hh:HSat cx ι box used w) (hb:box b=some bx) (hne:bx.cs≠ [])
 (hρ:ρ c= .iface t (.ptr b off)) (hr:RepA ι (Mof cx ι box) w (a.eval c) (ρ c)) (ha:∀w,(isAgg e).run P w= .ok ag w) (hn:∀w,(sizeOf e).run P w= .ok n w) (hx:eD ag n off bx.cs=some (.osl ob k oo on)):
 ∃g A l c',a.eval c= .iface t (.pointer (some ⟨g,off,none⟩))∧(loadVar e ⟨g,off,none⟩).run P w= .ok (.slice A l c') w∧RepA ι (Mof cx ι box) w (.slice A l c') (.osl ob k oo on):=by
 rw[hρ] at hr
 obtain⟨u,hu,hp⟩:=Ir hr
 obtain⟨g,hg,rfl⟩:=hp.ptr'
 obtain⟨g',hg',-,-,d,hd,hlen,hcs⟩:=hh.ne hb hne
 rw[hg] at hg'
 injection hg' with hg'
 subst hg'
 obtain⟨v,hv,hvx⟩:=Cw (P:=P) (w:=w) (ι:=ι) (M:=Mof cx ι box) (g:=g) ha hn hx (c:=d) (fun j hj=>⟨_,Array.getElem?_eq_getElem byOmega⟩) (fun j v hv=>by rw[cell_of_row _ _ _ _ _ _ hd];exact hv) (fun j v y h1 h2=>(hcs j v y h1 h2).2)
 rcases hvx.osl' with⟨g2,cap,cc,ty,rfl,-⟩|⟨-,A,rfl⟩
 ·exact⟨g,_,_,_,hu,hv,hvx⟩
 ·exact⟨g,_,_,_,hu,hv,hvx⟩
theorem I6 {ρ:Operand→AV} {x:AV} {ι:Nat→Option Nat} {M:Nat→Prop} {w:World} {a:Act} {f:FuncId} {args:Array Operand} {ats:Array TypeId} {A:Option Addr} {l c:Nat} (hv:RepA ι M w (.slice A l c) x) (hns:args.all lw=true) (hops:∀y,y∈args→RepA ι M w (a.eval y) (ρ y)):
 ∀y,y∈(Op.call {callee:= .value (.func f),args:= #[.const (.slice A l c)]++args,argTypes:=ats}).operands→RepA ι M w (a.eval y) (uy ρ x y):=by
 intro y hy
 simp only[Op.operands,Call.operands] at hy
 rcases Array.mem_append.1 hy with hy|hy
 ·simp at hy
  subst hy
  exact .any _
 ·rcases Array.mem_append.1 hy with hy|hy
  ·simp at hy
   subst hy
   exact hv
  ·rw[I1 (Array.all_eq_true_iff_forall_mem.1 hns y hy)]
   exact hops y hy
theorem I7 {ρ:Operand→AV} {x:AV} {args:Array Operand} {A:Option Addr} {l c:Nat} (hns:args.all lw=true):(#[Operand.const (.slice A l c)]++args).toList.map (uy ρ x)=x::args.toList.map ρ:=by
 rw[Array.toList_append,List.map_append]
 show x::_=_
 congr 1
 refine List.map_congr_left fun y hy=>I1 (Array.all_eq_true_iff_forall_mem.1 hns y (by simpa using hy))
theorem Sq {o:Oper} {ρ:Operand→AV} {c:Operand} {name:String} {t e:TypeId} {f:FuncId} {args:Array Operand} {ats:Array TypeId} {b off n k oo on ob:Nat} {bx:Bx} {ag:Bool} {fp:List (Nat×Bx)} {args':List AV} {x:AV} {tb:List (Nat×Option Bx)}
 (ho:o.op= .call {callee:= .invoke c name,args:=args,argTypes:=ats}) (hI:ow P t name f e) (hc:bn P f) (hρ:ρ c= .iface t (.ptr b off)) (hne:bx.cs≠ []) (ha:∀w,(isAgg e).run P w= .ok ag w) (hn:∀w,(sizeOf e).run P w= .ok n w) (hx:eD ag n off bx.cs=some (.osl ob k oo on))
 (hns:args.all lw=true) (r:Nat→Nat) (hF:aC P f fp args' x tb) (hl: .osl ob k oo on::args.toList.map ρ=args'.map (AV.ren r)) (hnm:args'.all (AV.names (inl fp))=true) (hof:okF fp=true) (hot:lg fp tb=true) (hxn:x.names (fun b=>inl fp b||inl tb b)=true) (hj:mJ r (lY fp++lh tb)=true)
 (hd:∀y,(b,some y)∉fD r tb):Yields P cx o ρ ⟨(b,bx)::kZ r fp,x.ren r,fD r tb⟩:=by
 refine IZ (S':=⟨kZ r fp,x.ren r,fD r tb⟩) rfl rfl (fun b x h=>List.mem_cons_of_mem _ h) (fun b' y h1 h2=> ?_) fun ι box used a w hh hfp hops=> ?_
 ·obtain⟨z,hz⟩:=h2
  rcases List.mem_cons.1 hz with h|h
  ·injection h with h3 h4
   subst h3
   exact absurd h1 (hd y)
  ·exact⟨z,h⟩
 ·have hopc:=hops c (aM ho (by simp[Op.operands,Call.operands]))
  obtain⟨g,A,l,c',hv,hld,hrep⟩:=I5 (P:=P) hh (hfp b bx ai) hne hρ hopc ha hn hx
  refine⟨_,uy ρ (.osl ob k oo on),I4 ho hI hc hv hld,Hu r (yU rfl) hc hF (by rw[I7 hns];exact hl) hnm hof hot hxn hj,I6 hrep hns fun y hy=>hops y (aM ho ?_)⟩
  simp only[Op.operands,Call.operands]
  exact Array.mem_append.2 (.inr hy)
theorem Sr {o:Oper} {ρ:Operand→AV} {c:Operand} {name:String} {t e:TypeId} {f:FuncId} {args:Array Operand} {ats:Array TypeId} {b off n k oo on ob:Nat} {bx:Bx} {ag:Bool} {fp:List (Nat×Bx)} {xs:List AV} {x:AV}
 (ho:o.op= .call {callee:= .invoke c name,args:=args,argTypes:=ats}) (hI:ow P t name f e) (hc:bn P f) (hρ:ρ c= .iface t (.ptr b off)) (hne:bx.cs≠ []) (ha:∀w,(isAgg e).run P w= .ok ag w) (hn:∀w,(sizeOf e).run P w= .ok n w) (hx:eD ag n off bx.cs=some (.osl ob k oo on))
 (hns:args.all lw=true) (hF:Fun P f xs x) (hfx:x.flat0=true) (hfz:All2 (Frz fp) (.osl ob k oo on::args.toList.map ρ) xs):Yields P cx o ρ ⟨(b,bx)::fp,x,[]⟩:=by
 refine IZ (S':=⟨fp,x,[]⟩) rfl rfl (fun b x h=>List.mem_cons_of_mem _ h) (fun b' y h1 h2=>by simp at h1) fun ι box used a w hh hfp hops=> ?_
 have hopc:=hops c (aM ho (by simp[Op.operands,Call.operands]))
 obtain⟨g,A,l,c',hv,hld,hrep⟩:=I5 (P:=P) hh (hfp b bx ai) hne hρ hopc ha hn hx
 have hm:=I7 (ρ:=ρ) (x:= .osl ob k oo on) (A:=A) (l:=l) (c:=c') hns
 refine⟨_,uy ρ (.osl ob k oo on),I4 ho hI hc hv hld,CJ (yU rfl) hc hF hfx (by rw[hm];exact hfz.length) (by rw[hm];exact Hl hfz),I6 hrep hns fun y hy=>hops y (aM ho ?_)⟩
 simp only[Op.operands,Call.operands]
 exact Array.mem_append.2 (.inr hy)
end
section
variable {P:Program} {cx:Cx} {env:Env} {box:ay} {nm n0 i:Nat} {ops:Array Oper} {draw:Bool} {rest:List Oper} {u:List Nat} {acc:List (List Nat×List Nat)} {dst:Option Tmp} {ty:TypeId} {pos:String} {after:Array Edge} {g:Bool} {d:Tmp}
theorem Su {hyp:Prop} {o:Oper} {K:OpS→Prop} {c:Operand} {name:String} {t e:TypeId} {f:FuncId} {args:Array Operand} {ats:Array TypeId} {b off k oo on ob:Nat} {bx:Bx} {j:TI} {fp fp':List (Nat×Bx)} {args':List AV} {x x':AV} {tb tb':List (Nat×Option Bx)}
 (ho:o.op= .call {callee:= .invoke c name,args:=args,argTypes:=ats}) (hI:ow P t name f e) (hc:bn P f) (hT:tv P e=some j) (hρ:az env c= .iface t (.ptr b off)) (hb:ah box b=some bx) (hne:bx.cs≠ []) (hx:eD j.agg j.size off bx.cs=some (.osl ob k oo on))
 (hns:args.all lw=true) (hc0:gI hyp env (c::args.toList)) (r:List Nat) (hF:aC P f fp args' x tb) (hl: .osl ob k oo on::lm env args.toList=args'.map (AV.ren (look r)))
 (hs:(args'.all (AV.names (inl fp))&&okF fp&&lg fp tb&&x.names (fun b=>inl fp b||inl tb b)&&mJ (look r) (lY fp++lh tb))=true) (h1:kZ (look r) fp=fp') (h2:fD (look r) tb=tb') (h3:x.ren (look r)=x') (hfp:rA box fp') (hfr:xn nm fp' tb') (hd:tb'.all (fun p=> !(p.1==b&&p.2.isSome))=true)
 (hK:K ⟨(b,bx)::fp',x',tb'⟩):iK P cx hyp env box nm o K:=by
 subst h1 h2 h3
 simp only[Bool.and_eq_true] at hs
 obtain⟨⟨⟨⟨g1,g2⟩,g3⟩,g4⟩,g5⟩:=hs
 unfold iK
 rw[ho]
 refine⟨nZ (by simp only[Op.operands,Call.operands];simpa using hc0),?_⟩
 unfold bX
 simp only[ho]
 unfold wZ
 refine⟨_,fun _=>Sq ho hI hc hρ hne (qY hT) (fC hT) hx hns (look r) hF (by rw[←rD];exact hl) g1 g2 g3 g4 g5 (fun y hy=> ?_),fun b' y hy=> ?_,fun b' y hy=> ?_,hK⟩
 ·have:=List.all_eq_true.1 hd _ hy
  simp at this
 ·rcases List.mem_cons.1 hy with h|h
  ·injection h with e1 e2;subst e1 e2;exact hb
  ·exact CY hfp _ _ h
 ·rcases hfr (b',some y) hy rfl with h|h
  ·obtain⟨z,hz⟩:=jc.1 h
   exact .inl ⟨z,List.mem_cons_of_mem _ hz⟩
  ·exact .inr h
theorem I8 {hyp:Prop} {o:Oper} {K:OpS→Prop} {c:Operand} {name:String} {t e:TypeId} {f:FuncId} {args:Array Operand} {ats:Array TypeId} {b off k oo on ob:Nat} {bx:Bx} {j:TI} {xs:List AV} {x:AV} {pb:ay} {fp:List (Nat×Bx)}
 (ho:o.op= .call {callee:= .invoke c name,args:=args,argTypes:=ats}) (hI:ow P t name f e) (hc:bn P f) (hT:tv P e=some j) (hρ:az env c= .iface t (.ptr b off)) (hb:ah box b=some bx) (hne:bx.cs≠ []) (hx:eD j.agg j.size off bx.cs=some (.osl ob k oo on))
 (hns:args.all lw=true) (hc0:gI hyp env (c::args.toList)) (ns:List Nat) (hF:Fun P f xs x) (hfx:x.flat0=true) (hp:bQ box ns=pb) (hl:bY pb pb=fp) (hfz:dx (fz pb 6) (.osl ob k oo on::lm env args.toList) xs) (hK:K ⟨(b,bx)::fp,x,[]⟩):iK P cx hyp env box nm o K:=by
 subst hp hl
 unfold iK
 rw[ho]
 refine⟨nZ (by simp only[Op.operands,Call.operands];simpa using hc0),?_⟩
 unfold bX
 simp only[ho]
 unfold wZ
 rw[rD] at hfz
 have hA:∀ {l m:List AV},dx (fz (bQ box ns) 6) l m→All2 (Frz (bY (bQ box ns) (bQ box ns))) l m:=by
  intro l
  induction l with
  |nil=>intro m h;cases m with
   |nil=>exact .nil
   |cons=>exact h.elim
  |cons a l ih=>intro m h;cases m with
   |nil=>exact h.elim
   |cons y m=>exact .cons (kY _ h.1) (ih h.2)
 refine⟨_,fun _=>Sr ho hI hc hρ hne (qY hT) (fC hT) hx hns hF hfx (hA hfz),fun b' y hy=> ?_,fun b' y hy=>by simp at hy,hK⟩
 rcases List.mem_cons.1 hy with h|h
 ·injection h with e1 e2;subst e1 e2;exact hb
 ·exact xg (nY h)
def DV (p:Prop):Prop:=p
theorem hold {p:Prop} (h:p):DV p:=h
theorem Sv {K:Env→ay→Prop} {cl:Call} {t e:TypeId} {name:String} {f:FuncId} {l:List AV} (hS:rF env cl=some (t,name,l)) (hI:ow P t name f e) (hK:DV (iK P cx True env box (n0+8*i) {dst:=dst,op:= .call cl,type:=ty,pos:=pos,after:=after,guard:=none} (eP P cx ops draw n0 rest i env box u acc K dst))):
 aJ P cx ops draw n0 ({dst:=dst,op:= .call cl,type:=ty,pos:=pos,after:=after,guard:=none}::rest) i env box u acc K:=by
 unfold aJ
 exact hK
theorem Sw {K:Env→ay→Prop} {jj:Nat} {want:Bool} {cl:Call} {t e:TypeId} {name:String} {f:FuncId} {l:List AV} (hd:gH ops jj=some d) (hg:guardOf env want d=some g) (hS:rF env cl=some (t,name,l)) (hI:ow P t name f e)
 (hK:DV (iK P cx (g=true) env box (n0+8*i) {dst:=dst,op:= .call cl,type:=ty,pos:=pos,after:=after,guard:=some (jj,want)} (fT P cx ops draw n0 rest i env box u acc K g dst))):
 aJ P cx ops draw n0 ({dst:=dst,op:= .call cl,type:=ty,pos:=pos,after:=after,guard:=some (jj,want)}::rest) i env box u acc K:=by
 unfold aJ
 simp only[hd,hg]
 exact .inr hK
theorem Sy {G H:Prop} (h:(H→G)∧Tr H:=by
 refine⟨?_,?_⟩
 ·intro hZ
  try(with_reducible apply oK;intro K hK)
  with_reducible (repeat1' (first|exact trivial|(apply Dw;simp only[go_sem,↓reduceIte,hx];try rfl)|apply Aa|apply Ab|apply Ac|apply Ad|apply Ae|apply Af|apply Ag|apply Ah|apply Ai|apply Ak|apply Al|apply DI|apply Da|apply Db|apply Dc|apply De|apply Df|apply Dg|((first|apply An|apply Ao);(case hs=>with_unfolding_all rfl))|(apply Sv;(case hS=>(simp only[go_sem,↓reduceIte,hx];try rfl));(case hI=>with_unfolding_all (first|exact hi|exact hi.1|exact hi.2.1|exact hi.2.2.1|exact hi.2.2.2.1|exact hi.2.2.2.2.1|exact hi.2.2.2.2.2.1|exact hi.2.2.2.2.2.2.1|exact hi.2|exact hi.2.2|exact hi.2.2.2|exact hi.2.2.2.2|exact hi.2.2.2.2.2|exact hi.2.2.2.2.2.2)))|(apply Sw;(case hd=>(repeat(first|exact um rfl|apply uo)));(case hg|hS=>(simp only[go_sem,↓reduceIte,hx];try rfl));(case hI=>with_unfolding_all (first|exact hi|exact hi.1|exact hi.2.1|exact hi.2.2.1|exact hi.2.2.2.1|exact hi.2.2.2.2.1|exact hi.2.2.2.2.2.1|exact hi.2.2.2.2.2.2.1|exact hi.2|exact hi.2.2|exact hi.2.2.2|exact hi.2.2.2.2|exact hi.2.2.2.2.2|exact hi.2.2.2.2.2.2)))|(apply Iw;(case hn=>with_unfolding_all rfl);(case hS|hc=>(simp only[go_sem,↓reduceIte,hx];try rfl));(case hI=>with_unfolding_all (first|exact hi|exact hi.1|exact hi.2.1|exact hi.2.2.1|exact hi.2.2.2.1|exact hi.2.2.2.2.1|exact hi.2.2.2.2.2.1|exact hi.2.2.2.2.2.2.1|exact hi.2|exact hi.2.2|exact hi.2.2.2|exact hi.2.2.2.2|exact hi.2.2.2.2.2|exact hi.2.2.2.2.2.2)))|(apply Iy;(case hd=>(repeat(first|exact um rfl|apply uo)));(case hn=>with_unfolding_all rfl);(case hg|hS|hc=>(simp only[go_sem,↓reduceIte,hx];try rfl));(case hI=>with_unfolding_all (first|exact hi|exact hi.1|exact hi.2.1|exact hi.2.2.1|exact hi.2.2.2.1|exact hi.2.2.2.2.1|exact hi.2.2.2.2.2.1|exact hi.2.2.2.2.2.2.1|exact hi.2|exact hi.2.2|exact hi.2.2.2|exact hi.2.2.2.2|exact hi.2.2.2.2.2|exact hi.2.2.2.2.2.2)))|apply Am|apply Ap|apply Aq|apply Ar|apply As|apply Au|apply Av|apply Aj|apply At|apply Aw|apply Ax|apply Ay|apply Az|apply Ba|apply Bb|apply Bc|apply Bd|apply Be|apply Ca|apply Cb|apply Cc|apply Cd|apply Ce|apply Cf|apply Cg|apply Ch|apply Ci|apply Bf|apply Cj|apply Ck|apply Cl|apply Cm|apply Cn|apply Co|apply Cp|(apply Dv;with_unfolding_all rfl)|((first|apply Dt|apply Du);kernel_rfl)|(apply Dx;simp only[dA,List.map_cons,List.map_nil,List.cons_append,List.nil_append,OpS.nm,OpS.reads,OpS.turns,Nat.reduceAdd];try with_unfolding_all rfl)|(apply Dy;intro hg;try simp only[hg])|(apply Dz;intro hq;try simp only[kF] at hq;try(exfalso;clear hZ;omega))|(apply DC;intro K hK)|(apply DD;repeat(first|exact um rfl|apply uo))|(apply DF;unfold mI;kernel_rfl)|(apply xA;first|(simp;done)|(simp[go_sem];done))|(refine hK _ _ ?_;clear hK;clear K)|(refine cG ?_;first|refine ae hi ?_|refine ae (hi _) ?_|refine ae (hi _ _) ?_|refine ae (hi _ _ _) ?_|refine ae (hi _ _ _ _) ?_|refine aN hi ?_|refine ae hi.1 ?_|refine ae (hi.1 _) ?_|refine ae (hi.1 _ _) ?_|refine ae (hi.1 _ _ _) ?_|refine ae (hi.1 _ _ _ _) ?_|refine aN hi.1 ?_|refine ae hi.2.1 ?_|refine ae (hi.2.1 _) ?_|refine ae (hi.2.1 _ _) ?_|refine ae (hi.2.1 _ _ _) ?_|refine ae (hi.2.1 _ _ _ _) ?_|refine aN hi.2.1 ?_|refine ae hi.2 ?_|refine ae (hi.2 _) ?_|refine ae (hi.2 _ _) ?_|refine ae (hi.2 _ _ _) ?_|refine ae (hi.2 _ _ _ _) ?_|refine aN hi.2 ?_|refine ae hi.2.2.1 ?_|refine ae (hi.2.2.1 _) ?_|refine ae (hi.2.2.1 _ _) ?_|refine ae (hi.2.2.1 _ _ _) ?_|refine ae (hi.2.2.1 _ _ _ _) ?_|refine aN hi.2.2.1 ?_|refine ae hi.2.2 ?_|refine ae (hi.2.2 _) ?_|refine ae (hi.2.2 _ _) ?_|refine ae (hi.2.2 _ _ _) ?_|refine ae (hi.2.2 _ _ _ _) ?_|refine aN hi.2.2 ?_|refine ae hi.2.2.2.1 ?_|refine ae (hi.2.2.2.1 _) ?_|refine ae (hi.2.2.2.1 _ _) ?_|refine ae (hi.2.2.2.1 _ _ _) ?_|refine ae (hi.2.2.2.1 _ _ _ _) ?_|refine aN hi.2.2.2.1 ?_|refine ae hi.2.2.2 ?_|refine ae (hi.2.2.2 _) ?_|refine ae (hi.2.2.2 _ _) ?_|refine ae (hi.2.2.2 _ _ _) ?_|refine ae (hi.2.2.2 _ _ _ _) ?_|refine aN hi.2.2.2 ?_|refine ae hi.2.2.2.2.1 ?_|refine ae (hi.2.2.2.2.1 _) ?_|refine ae (hi.2.2.2.2.1 _ _) ?_|refine ae (hi.2.2.2.2.1 _ _ _) ?_|refine ae (hi.2.2.2.2.1 _ _ _ _) ?_|refine aN hi.2.2.2.2.1 ?_|refine ae hi.2.2.2.2 ?_|refine ae (hi.2.2.2.2 _) ?_|refine ae (hi.2.2.2.2 _ _) ?_|refine ae (hi.2.2.2.2 _ _ _) ?_|refine ae (hi.2.2.2.2 _ _ _ _) ?_|refine aN hi.2.2.2.2 ?_|refine ae hi.2.2.2.2.2.1 ?_|refine ae (hi.2.2.2.2.2.1 _) ?_|refine ae (hi.2.2.2.2.2.1 _ _) ?_|refine ae (hi.2.2.2.2.2.1 _ _ _) ?_|refine ae (hi.2.2.2.2.2.1 _ _ _ _) ?_|refine aN hi.2.2.2.2.2.1 ?_|refine ae hi.2.2.2.2.2 ?_|refine ae (hi.2.2.2.2.2 _) ?_|refine ae (hi.2.2.2.2.2 _ _) ?_|refine ae (hi.2.2.2.2.2 _ _ _) ?_|refine ae (hi.2.2.2.2.2 _ _ _ _) ?_|refine aN hi.2.2.2.2.2 ?_|refine ae hi.2.2.2.2.2.2.1 ?_|refine ae (hi.2.2.2.2.2.2.1 _) ?_|refine ae (hi.2.2.2.2.2.2.1 _ _) ?_|refine ae (hi.2.2.2.2.2.2.1 _ _ _) ?_|refine ae (hi.2.2.2.2.2.2.1 _ _ _ _) ?_|refine aN hi.2.2.2.2.2.2.1 ?_|refine ae hi.2.2.2.2.2.2 ?_|refine ae (hi.2.2.2.2.2.2 _) ?_|refine ae (hi.2.2.2.2.2.2 _ _) ?_|refine ae (hi.2.2.2.2.2.2 _ _ _) ?_|refine ae (hi.2.2.2.2.2.2 _ _ _ _) ?_|refine aN hi.2.2.2.2.2.2 ?_|refine ae hi.2.2.2.2.2.2.2.1 ?_|refine ae (hi.2.2.2.2.2.2.2.1 _) ?_|refine ae (hi.2.2.2.2.2.2.2.1 _ _) ?_|refine ae (hi.2.2.2.2.2.2.2.1 _ _ _) ?_|refine ae (hi.2.2.2.2.2.2.2.1 _ _ _ _) ?_|refine aN hi.2.2.2.2.2.2.2.1 ?_|refine ae hi.2.2.2.2.2.2.2 ?_|refine ae (hi.2.2.2.2.2.2.2 _) ?_|refine ae (hi.2.2.2.2.2.2.2 _ _) ?_|refine ae (hi.2.2.2.2.2.2.2 _ _ _) ?_|refine ae (hi.2.2.2.2.2.2.2 _ _ _ _) ?_|refine aN hi.2.2.2.2.2.2.2 ?_|refine ae hi.2.2.2.2.2.2.2.2.1 ?_|refine ae (hi.2.2.2.2.2.2.2.2.1 _) ?_|refine ae (hi.2.2.2.2.2.2.2.2.1 _ _) ?_|refine ae (hi.2.2.2.2.2.2.2.2.1 _ _ _) ?_|refine ae (hi.2.2.2.2.2.2.2.2.1 _ _ _ _) ?_|refine aN hi.2.2.2.2.2.2.2.2.1 ?_|refine ae hi.2.2.2.2.2.2.2.2 ?_|refine ae (hi.2.2.2.2.2.2.2.2 _) ?_|refine ae (hi.2.2.2.2.2.2.2.2 _ _) ?_|refine ae (hi.2.2.2.2.2.2.2.2 _ _ _) ?_|refine ae (hi.2.2.2.2.2.2.2.2 _ _ _ _) ?_|refine aN hi.2.2.2.2.2.2.2.2 ?_|refine ae hi.2.2.2.2.2.2.2.2.2.1 ?_|refine ae (hi.2.2.2.2.2.2.2.2.2.1 _) ?_|refine ae (hi.2.2.2.2.2.2.2.2.2.1 _ _) ?_|refine ae (hi.2.2.2.2.2.2.2.2.2.1 _ _ _) ?_|refine ae (hi.2.2.2.2.2.2.2.2.2.1 _ _ _ _) ?_|refine aN hi.2.2.2.2.2.2.2.2.2.1 ?_|refine ae hi.2.2.2.2.2.2.2.2.2 ?_|refine ae (hi.2.2.2.2.2.2.2.2.2 _) ?_|refine ae (hi.2.2.2.2.2.2.2.2.2 _ _) ?_|refine ae (hi.2.2.2.2.2.2.2.2.2 _ _ _) ?_|refine ae (hi.2.2.2.2.2.2.2.2.2 _ _ _ _) ?_|refine aN hi.2.2.2.2.2.2.2.2.2 ?_|refine ae hi.2.2.2.2.2.2.2.2.2.2.1 ?_|refine ae (hi.2.2.2.2.2.2.2.2.2.2.1 _) ?_|refine ae (hi.2.2.2.2.2.2.2.2.2.2.1 _ _) ?_|refine ae (hi.2.2.2.2.2.2.2.2.2.2.1 _ _ _) ?_|refine ae (hi.2.2.2.2.2.2.2.2.2.2.1 _ _ _ _) ?_|refine aN hi.2.2.2.2.2.2.2.2.2.2.1 ?_|refine ae hi.2.2.2.2.2.2.2.2.2.2 ?_|refine ae (hi.2.2.2.2.2.2.2.2.2.2 _) ?_|refine ae (hi.2.2.2.2.2.2.2.2.2.2 _ _) ?_|refine ae (hi.2.2.2.2.2.2.2.2.2.2 _ _ _) ?_|refine ae (hi.2.2.2.2.2.2.2.2.2.2 _ _ _ _) ?_|refine aN hi.2.2.2.2.2.2.2.2.2.2 ?_|refine ae hi.2.2.2.2.2.2.2.2.2.2.2.1 ?_|refine ae (hi.2.2.2.2.2.2.2.2.2.2.2.1 _) ?_|refine ae (hi.2.2.2.2.2.2.2.2.2.2.2.1 _ _) ?_|refine ae (hi.2.2.2.2.2.2.2.2.2.2.2.1 _ _ _) ?_|refine ae (hi.2.2.2.2.2.2.2.2.2.2.2.1 _ _ _ _) ?_|refine aN hi.2.2.2.2.2.2.2.2.2.2.2.1 ?_|refine ae hi.2.2.2.2.2.2.2.2.2.2.2 ?_|refine ae (hi.2.2.2.2.2.2.2.2.2.2.2 _) ?_|refine ae (hi.2.2.2.2.2.2.2.2.2.2.2 _ _) ?_|refine ae (hi.2.2.2.2.2.2.2.2.2.2.2 _ _ _) ?_|refine ae (hi.2.2.2.2.2.2.2.2.2.2.2 _ _ _ _) ?_|refine aN hi.2.2.2.2.2.2.2.2.2.2.2 ?_|refine ae hi.2.2.2.2.2.2.2.2.2.2.2.2.1 ?_|refine ae (hi.2.2.2.2.2.2.2.2.2.2.2.2.1 _) ?_|refine ae (hi.2.2.2.2.2.2.2.2.2.2.2.2.1 _ _) ?_|refine ae (hi.2.2.2.2.2.2.2.2.2.2.2.2.1 _ _ _) ?_|refine ae (hi.2.2.2.2.2.2.2.2.2.2.2.2.1 _ _ _ _) ?_|refine aN hi.2.2.2.2.2.2.2.2.2.2.2.2.1 ?_|refine ae hi.2.2.2.2.2.2.2.2.2.2.2.2 ?_|refine ae (hi.2.2.2.2.2.2.2.2.2.2.2.2 _) ?_|refine ae (hi.2.2.2.2.2.2.2.2.2.2.2.2 _ _) ?_|refine ae (hi.2.2.2.2.2.2.2.2.2.2.2.2 _ _ _) ?_|refine ae (hi.2.2.2.2.2.2.2.2.2.2.2.2 _ _ _ _) ?_|refine aN hi.2.2.2.2.2.2.2.2.2.2.2.2 ?_)|(clear hZ;omega)|(exfalso;clear hZ;first|contradiction|omega)))
  all_goals(refine Lf.a ?_;(try(revert K;have hW:=hZ;clear hW;refine bK ?_));(repeat(first|(revert hq;have hW:=hZ;clear hW)|(revert hg;have hW:=hZ;clear hW)));(first|((repeat(rcases hZ with⟨-,hZ⟩));refine' Lv.a hZ)|(repeat(first|(with_reducible refine' Lv.a hZ)|(rcases hZ with⟨-,hZ⟩)))))
  all_goals(first|exact True|skip)
 first|exact DN|exact⟨⟩):H→G:=h.1
theorem gJ {G H X Y:Prop} (hx:X) (hi:Y) (k:H) (h:X→Y→H→G:=by intro hx hi;exact Sy) (n:Nat:=0):G:=h hx hi k
end
section
variable {P:Program} {cx:Cx}
theorem SA {o:Oper} {ρ:Operand→AV} {t e:TypeId} {j:TI} (ho:o.op= .buildSlice t 0 #[]) (hu:P.underlying t=some (.slice e)) (hT:tv P e=some j):Yields P cx o ρ ⟨[],.sl true j.size [],[]⟩:=by
 intro ι box used a w hh hdef hfp hfr hops K Q hK
 have hrun:(execOp a.eval o).run P w= .ok (.value (.slice (some ⟨w.heap.size,0,none⟩) 0 0)) (w.alloc (.cells #[] e)):=by
  have hr0:Array.range 0= #[]:=rfl
  simp[execOp,ho,Instr.buildSlice,run_underlying hu,fC hT,hr0,Instr.fill,newRow,newObj,Sem.run]
 unfold Oper.wp
 rw[hrun,Oper.upon_value]
 refine hK _ ι _ ((tQ hh ((Below.refl _ _).alloc (Nat.le_refl _) _)).umono fun b h=> .inl h) (.d (.sl (b:=0) (off:=0) (x:=fun _ _=>undef) rfl (Nat.le_refl _) (Nat.zero_le _) (fun _=>rfl) ai ai ai ai))
theorem SB {id:Nat} {ops:Array Oper} {o:Oper} {rest:List Oper} {Q:Exit→LS→Prop} {A:LS} (S:OpS) (hops:ops.toList=o::rest) (hok:dn cx.N (.region id ops false)=true) (hg:o.guard=none) (hy:Yields P cx o (aI A.env) S) (hf0:S.fp=[]) (ht0:S.tb=[])
 (hK:aJ P cx ops false A.next rest 1 (dA o.dst S.x A.env) A.box [] [S.nm] (fun env box=>∃m,A.next+8*ops.size≤m∧Q .normal ⟨env,box,m⟩)):aY P cx (.region id ops false) Q A:=by
 have hd:pI cx.N ops=true:=by
  simp only[dn,Bool.and_eq_true] at hok
  exact hok.1
 have h0:ops[0]? =some o:=by rw[←Array.getElem?_toList,hops];rfl
 have hdst:∀d,o.dst=some d→d<cx.N:=fun d hd'=>by
  have:=Array.all_eq_true_iff_forall_mem.1 hd o (Array.mem_of_getElem? h0)
  simp only[Bool.and_eq_true] at this
  simpa[hd'] using this.1
 have hnd:∀c,o.op≠ .defer c:=fun c hc=>by
  have:=Array.all_eq_true_iff_forall_mem.1 hd o (Array.mem_of_getElem? h0)
  simp[hc,ze] at this
 have hlen:1+rest.length=ops.size:=by rw[←Array.length_toList,hops];simp;omega
 obtain⟨rs,env',box',u',h1,-,h3,m,hm4,h4⟩:=pJ (P:=P) (cx:=cx) (draw:=false) hd rest 1 (dA o.dst S.x A.env) A.box [] [S.nm] (fun j=>by
  have:ops.toList[1+j]? =rest[j]? :=by rw[hops,Nat.add_comm,List.getElem?_cons_succ]
  rw[←this,Array.getElem?_toList]) ai hlen hK
 have hc:Chain P cx ops ops.toList A.toAS (⟨true,S⟩::rs) (bB env' box' A.next u'):=by
  rw[hops]
  refine .cons ⟨by unfold j6;simp only[hg],fun _=>by rw[show A.toAS.eval=aI A.env from kv ..];exact hy,(by intro h;cases h),(by rw[hf0];simp),(by rw[ht0];simp),hdst,hnd⟩ ?_
  rw[show A.toAS.app o.dst S=bB (dA o.dst S.x A.env) (S.tb++A.box) A.next (S.tb.map (·.1)++[]) from qZ ..,ht0]
  exact h1
 have hend:∀b,b<A.next∨b∈u'→b<A.next+8*ops.size:=by
  rintro b (hb|hb)
  ·omega
  ·exact h3 b hb
 intro ι a w hs
 refine wpIn_mono (Gs (Q:=fun e A'=>e= .normal∧A'=bB env' box' A.next u') hc ⟨rfl,rfl⟩ ι a w hs) ?_
 rintro e a' w' ⟨ι',A',h5,rfl,rfl⟩
 exact⟨ι',bB env' box' m [],h5.ent ⟨fun _=> .inr rfl,fun _ _ h=>h,fun b hb=> .inl (Nat.lt_of_lt_of_le (hend b hb) hm4)⟩,⟨⟨env',box',m⟩,rfl,h4⟩⟩
end
theorem fK:ow Tryz.prog 212 "Len" 98 214:=by
 intro a us w v h
 have h2:(method (Tryz.prog.types.size+Made.depth) 212 (.pointer (some a)) "Len").run Tryz.prog w=(do let v ←loadVar 214 a;pure (98,v):Sem (FuncId×Value)).run Tryz.prog w:=aA
 have h3:(method (Tryz.prog.types.size+Made.depth) 212 (.pointer (some a)) "Len").run Tryz.prog w= .ok (98,v) w:=by
  rw[h2,Sem.run_bind,h];rfl
 simp only[callMethod,Sem.run_bind,run_program,Result.andThen_ok,h3]
 exact C9 _ w
theorem fZ:ow Tryz.prog 212 "Swap" 274 214:=by
 intro a us w v h
 have h2:(method (Tryz.prog.types.size+Made.depth) 212 (.pointer (some a)) "Swap").run Tryz.prog w=(do let v ←loadVar 214 a;pure (274,v):Sem (FuncId×Value)).run Tryz.prog w:=aA
 have h3:(method (Tryz.prog.types.size+Made.depth) 212 (.pointer (some a)) "Swap").run Tryz.prog w= .ok (274,v) w:=by
  rw[h2,Sem.run_bind,h];rfl
 simp only[callMethod,Sem.run_bind,run_program,Result.andThen_ok,h3]
 exact Ie _ w
theorem gK:Inv Tryz.prog 212 "Push" 273:=by intro v us w;kernel_rfl
theorem gL:Inv Tryz.prog 212 "Pop" 272:=by intro v us w;kernel_rfl
end
section
section
variable {P:Program} {cx:Cx} {ops:Array Oper} {md:Region.Mode}
def uz (P:Program) (cx:Cx) (md:Region.Mode) (ops:Array Oper) (k:Nat) (ch:List PanicEntry) (Q:AS→Prop):Nat→Array Bool→AS→Prop
 |0,_,_=>False
 |fuel+1,listed,A=>Region.ready md ops listed≠ []∧∀i,i∈Region.ready md ops listed→∃o,ops[i]? =some o∧((i=k∧PanO P o A.eval ch∧Q A)∨(i≠k∧∃r:R,r.S.tb=[]∧StepOK P cx ops o A r∧uz P cx md ops k ch Q fuel (listed.setIfInBounds i true) (A.app o.dst r.S)))
theorem I9 {k:Nat} {ch:List PanicEntry} {Q':AS→Prop} {Q:Exit→Act→World→Prop} (hQ:∀ι A a w,Sat cx ι A a w→Q' A→Q (.panic ch) a w):∀(fuel:Nat) (listed:Array Bool) (A:AS) (ι:Nat→Option Nat) (a:Act) (w:World),Sat cx ι A a w→uz P cx md ops k ch Q' fuel listed A→wpAnyIn (aT cx.R) 9 P md ops Q fuel listed a w
 |0,_,_,_,_,_,_,h=>h.elim
 |fuel+1,_,_,_,a,_,hs,h=>⟨fun h0=>absurd h0 h.1,fun i hi=>by
   obtain⟨o,ho,h1⟩:=h.2 i hi
   rcases h1 with⟨rfl,hp,hq⟩|⟨-,r,-,h1,h2⟩
   ·unfold wpOpIn
    have hw:Region.wanted o (yielded ops a.tmps)=true:=by simp[Region.wanted,hp.g]
    simp only[ho,hw,if_true]
    exact IQ hp hs fun w' hs'=>hQ _ _ _ _ hs' hq
   ·exact yP ho hs h1 fun ι' a' w' hs'=>I9 hQ fuel _ _ ι' a' w' hs' h2⟩
theorem PanO.back {o:Oper} {A:AS} {d:Option Tmp} {S:OpS} {ch:List PanicEntry} (hl:∀t,d=some t→t∉o.looksAt ops) (h:PanO P o (A.app d S).eval ch):PanO P o A.eval ch where
 ex:=by
  obtain⟨f,l,h1,h2,h3,h4⟩:=h.ex
  refine⟨f,l,fun hc ι M a w hy=>h1 hc ι M a w fun y hy'=> ?_,h2,h3,h4⟩
  rw[Cv (S:=S) fun t ht e=>hl t ht (operand_looks (by rw[←e];exact hy'))]
  exact hy y hy'
 g:=h.g
 nd:=h.nd
theorem SC {k:Nat} {r:R} {ch:List PanicEntry} {Q':AS→Prop} {i:Nat} {oi:Oper} (hi:ops[i]? =some oi) (hik:i≠k) (hT:r.S.tb=[]) (hQ:∀A,Q' (A.app oi.dst r.S)→Q' A):∀(fuel:Nat) (listed:Array Bool) (A:AS),
 (∀j oj,ops[j]? =some oj→j≠i→listed.getD j true=false→(∀e,e∈oj.after→Region.binds md e=true→e.on≠i)→oi.apart ops oj=true)→
 i∈Region.ready md ops listed→StepOK P cx ops oi A r→
 uz P cx md ops k ch Q' fuel (listed.setIfInBounds i true) (A.app oi.dst r.S)→uz P cx md ops k ch Q' (fuel+1) listed A:=by
 intro fuel
 induction fuel with
 |zero=>intro listed A _ hr hy H;exact H.elim
 |succ fuel ih=>
  intro listed A hfree hr hy H
  refine⟨fun h=>(by rw[h] at hr;cases hr),fun j hj=> ?_⟩
  by_cases hji:j=i
  ·subst hji;exact⟨oi,hi,.inr ⟨hik,r,hT,hy,H⟩⟩
  ·obtain⟨oj,hoj,h1⟩:=H.2 j (ready_mono hj hji)
   obtain⟨hjun,oj',hoj',hall⟩:=mem_ready.1 hj
   obtain rfl:oj'=oj:=by rw[hoj] at hoj';exact(Option.some.inj hoj').symm
   have hnot:∀e,e∈oj'.after→Region.binds md e=true→e.on≠i:=fun e he hb heq=>by
    have h1:=hall e he hb
    have h0:=(mem_ready.1 hr).1
    rw[heq] at h1
    rcases Nat.lt_or_ge i listed.size with h'|h'
    ·simp[h'] at h0 h1;rw[h0] at h1;cases h1
    ·simp[Array.getElem?_eq_none h'] at h1
   obtain⟨a1,a2,a3⟩:=Oper.apart_spec (hfree j oj' hoj hji hjun hnot)
   refine⟨oj',hoj,?_⟩
   rcases h1 with⟨rfl,hp,hq⟩|⟨hjk,r',hT',h1,h2⟩
   ·exact .inl ⟨rfl,hp.back a1,hQ _ hq⟩
   have hfree':∀k ok,ops[k]? =some ok→k≠i→(listed.setIfInBounds j true).getD k true=false→
    (∀e,e∈ok.after→Region.binds md e=true→e.on≠i)→oi.apart ops ok=true:=fun k ok hk hki hun hno=>by
    refine hfree k ok hk hki ?_ hno
    by_cases hjk:j=k
    ·subst hjk;exact hjun
    ·rw[getD_set_ne true hjk] at hun;exact hun
   refine .inr ⟨hjk,r',hT',h1.back a1 (fun b r hr=>by rw[hT] at hr;cases hr),ih (listed.setIfInBounds j true) _ hfree' (ready_mono hr (Ne.symm hji)) (hy.fwd a3 fun b r hr=>by rw[hT'] at hr;cases hr) ?_⟩
   rw[Array.setIfInBounds_comm _ _ hji,Gt (fun t ht=>fun h=>a2 t h ht) (fun b r hr=>by rw[hT'] at hr;cases hr)]
   exact h2
def xD (md:Region.Mode) (ops:Array Oper) (k:Nat):List Nat→Array Bool→Bool
 | [],listed=>Region.ready md ops listed== [k]
 |i::l,listed=>(Region.ready md ops listed).contains i&& !(i==k)&&Region.free md ops listed i&&xD md ops k l (listed.setIfInBounds i true)
theorem Ja {k:Nat} {o:Oper} {ch:List PanicEntry} {pops:Array Oper} {Q':AS→Prop} (ho:ops[k]? =some o) {A':AS} (hP:PanO P o A'.eval ch) (hQ':Q' A'):∀(order:List Nat) (l:List Oper) (listed:Array Bool) (A:AS) (ss:List R),(∀r,r∈ss→r.S.tb=[])→order.map (fun i=>ops[i]?)=l.map some→
 (∀o,o∈l→o.guard=none)→(∀(o:Oper) (r:R) (A:AS),o∈l→r∈ss→Q' (A.app o.dst r.S)→Q' A)→xD md ops k order listed=true→Chain P cx pops l A ss A'→∀m,uz P cx md ops k ch Q' (order.length+1+m) listed A
 | [],l,listed,A,ss,_,hl,_,_,hB,hc,m=>by
   have:l=[]:=by simpa using hl.symm
   subst this
   cases hc
   simp only[xD,beq_iff_eq] at hB
   rw[show([]:List Nat).length+1+m=m+1 by simp;omega]
   exact⟨by rw[hB];simp,fun i hi=>by rw[hB] at hi;simp at hi;subst hi;exact⟨o,ho,.inl ⟨rfl,hP,hQ'⟩⟩⟩
 |i::order,l,listed,A,ss,hT,hl,hg,hQ,hB,hc,m=>by
  cases hc with
  |nil=>simp at hl
  | @cons oi l _ _ r ss h t=>
    simp only[List.map_cons,List.cons.injEq] at hl
    obtain⟨h0,hl⟩:=hl
    simp only[xD,Bool.and_eq_true,Bool.not_eq_true',beq_eq_false_iff_ne,ne_eq] at hB
    obtain⟨⟨⟨hr,hik⟩,hf⟩,hB⟩:=hB
    have hgi:=hg oi ai
    have hst:StepOK P cx ops oi A r:=by
     refine⟨?_,h.y,h.off,h.fp,h.fresh,h.dst,h.nd⟩
     have:=h.g
     unfold j6 at this ⊢
     simp only[hgi] at this ⊢
     exact this
    rw[show(i::order).length+1+m=(order.length+1+m)+1 by simp;omega]
    refine SC h0 hik (hT r ai) (fun B hB=>hQ oi r B ai ai hB) _ listed A (fun j oj hj hji hun hno=>Region.free_spec h0 hf j oj hj hji hun hno) (by simpa using hr) hst ?_
    exact Ja ho hP hQ' order l _ _ ss (fun r hr=>hT r (List.mem_cons_of_mem _ hr)) hl (fun o ho=>hg o (List.mem_cons_of_mem _ ho)) (fun o r A h1 h2=>hQ o r A (List.mem_cons_of_mem _ h1) (List.mem_cons_of_mem _ h2)) hB t m
theorem Jb {n0:Nat} {K:Env→ay→Prop} (hd:pI cx.N ops=true):∀(l:List Oper) (i:Nat) (env:Env) (box:ay) (u:List Nat) (acc:List (List Nat×List Nat)),(∀o,o∈l→o.guard=none)→(∀j,l[j]? =ops[i+j]?)→(∀b,b∈u→b<n0+8*i)→i+l.length=ops.size→aJ P cx ops false n0 l i env box u acc K→
 ∃rs env' box' u',Chain P cx ops l (bB env box n0 u) rs (bB env' box' n0 u')∧box'=(rs.map fun r=>r.S.tb).reverse.flatten++box∧(∀b,b∈u'→b<n0+8*ops.size)∧K env' box'
 | [],i,env,box,u,acc,_,_,hu,hn,h=>⟨[],env,box,u,.nil _,rfl,by simpa[←hn] using hu,h.2⟩
 |o::l,i,env,box,u,acc,hgs,hl,hu,hn,h=>by
  have h0:ops[i]? =some o:=by simpa using(hl 0).symm
  have hl':∀j,l[j]? =ops[i+1+j]? :=fun j=>by have:=hl (j+1);simpa[Nat.add_assoc,Nat.add_comm 1 j] using this
  have hdst:∀d,o.dst=some d→d<cx.N:=fun d hd'=>by
   have:=Array.all_eq_true_iff_forall_mem.1 hd o (Array.mem_of_getElem? h0)
   simp only[Bool.and_eq_true] at this
   simpa[hd'] using this.1
  have hnd:∀c,o.op≠ .defer c:=fun c hc=>by
   have:=Array.all_eq_true_iff_forall_mem.1 hd o (Array.mem_of_getElem? h0)
   simp[hc,ze] at this
  have hn':i+1+l.length=ops.size:=by simp at hn;omega
  have hg:=hgs o ai
  simp only[aJ,hg] at h
  obtain⟨S,h1,h2,h3,h4,h5⟩:=CP h
  have hu':∀b,b∈S.tb.map (·.1)++u→b<n0+8*(i+1):=by
   intro b hb
   rcases List.mem_append.1 hb with hb|hb
   ·obtain⟨p,hp,rfl⟩:=List.mem_map.1 hb
    have:=List.all_eq_true.1 h4 p hp
    simp at this;omega
   ·have:=hu b hb;omega
  obtain⟨rs,env',box',u',g1,g2,g3,g4⟩:=Jb hd l (i+1) _ _ _ _ (fun o ho=>hgs o (List.mem_cons_of_mem _ ho)) hl' hu' hn' h5
  refine⟨⟨true,S⟩::rs,env',box',u',.cons ⟨by unfold j6;simp only[hg],fun _=>by rw[kv];exact h1 trivial,(by intro h;cases h),h2,?_,hdst,hnd⟩ (by rw[qZ];exact g1),by rw[g2];simp,g3,g4⟩
  intro b x hb
  rcases h3 b x hb with h|hr
  ·exact .inl h
  ·refine .inr fun hused=> ?_
   rcases hused with h|h
   ·omega
   ·have:=hu _ h;omega
theorem SE {pops:Array Oper}:∀ {l:List Oper} {A A':AS} {ss:List R},Chain P cx pops l A ss A'→(∀r,r∈ss→r.S.tb=[])→(∀b,A'.used b↔A.used b)∧∀t,(∀o,o∈l→o.dst≠some t)→A'.env t=A.env t:=by
 intro l A A' ss h
 induction h with
 |nil A=>intro _;exact⟨fun _=>Iff.rfl,fun _ _=>rfl⟩
 | @cons o l A A' r ss h t ih=>
   intro hT
   obtain⟨i1,i2⟩:=ih fun r hr=>hT r (List.mem_cons_of_mem _ hr)
   have h0:=hT r ai
   refine⟨fun b=>(i1 b).trans (by simp[AS.app,h0]),fun t ht=> ?_⟩
   rw[i2 t fun o ho=>ht o (List.mem_cons_of_mem _ ho)]
   have:=ht o ai
   cases hod:o.dst with
   |none=>rfl
   |some d=>
    have hne:t≠d:=fun e=>this (by rw[hod,e])
    simp[AS.app,kV,hne]
theorem Jc (k:Nat) (order:List Nat) {id n:Nat} {l pre:List Oper} {o:Oper} {env:Env} {box:ay} {Q:Exit→LS→Prop} {ch:List PanicEntry} (keep:Env) (hm:P.follows .mixedOrders=true) (hp:order.map (fun i=>l[i]?)=pre.map some) (ho:l[k]? =some o)
 (hB:xD .any l.toArray k order (Array.replicate l.length false)=true) (hd:pI cx.N pre.toArray=true) (hs:Nat.ble (8*pre.length) 1000=true) (hg:pre.all (fun o=>o.guard.isNone)=true) (hl:order.length+1≤l.length)
 (hk:∀t,bf keep t= .any∨(bf env t=bf keep t∧pre.all (fun o=> !(o.dst==some t))=true))
 (h:∀K:Env→ay→Prop,(∀env',PanO P o (aI env') ch∧Q (.panic ch) ⟨keep,box,n+1000⟩→K env' box)→aJ P cx pre.toArray false n pre 0 env box [] [] K):
 aY P cx (.region id l.toArray true) Q ⟨env,box,n⟩:=by
 intro ι a w hs0
 obtain⟨rs,env',box',u',hc,hbox,hu,hq,hpan,hQ⟩:=Jb (cx:=cx) (K:=fun e b=>b=box∧PanO P o (aI e) ch∧Q (.panic ch) ⟨keep,box,n+1000⟩) hd pre 0 env box [] [] (fun o ho=>by have:=List.all_eq_true.1 hg o ho;simpa using this) ai ai ai (h _ fun _ h=>⟨rfl,h⟩)
 have hlen:=hc.length
 have hTs:∀r,r∈rs→r.S.tb=[]:=by
  rw[hq] at hbox
  have h0:(rs.map fun r=>r.S.tb).reverse.flatten=[]:=by
   have:=congrArg List.length hbox
   rw[List.length_append] at this
   exact List.eq_nil_of_length_eq_zero byOmega
  intro r hr
  rw[List.flatten_eq_nil_iff] at h0
  exact h0 _ (by simp;exact⟨r,hr,rfl⟩)
 let good:AS→Prop:=fun B=>B.box=ah box∧(∀b,B.used b↔(b<n))∧∀t,bf keep t= .any∨B.env t=bf keep t
 have hgood:∀(o:Oper) (r:R) (B:AS),o∈pre→r∈rs→good (B.app o.dst r.S)→good B:=fun o r B ho hr hB=>by
  have ht:=hTs r hr
  obtain⟨g1,g2,g3⟩:=hB
  simp only[AS.app,ht,ax] at g1 g2 g3
  refine⟨g1,fun b=>by simpa using g2 b,fun t=> ?_⟩
  rcases hk t with h1|⟨h1,h2⟩
  ·exact .inl h1
  ·rcases g3 t with g3|g3
   ·exact .inl g3
   ·have:=List.all_eq_true.1 h2 o ho
    simp at this
    refine .inr ?_
    rw[←g3]
    cases hod:o.dst with
    |none=>rfl
    |some d=>
     have hne:t≠d:=fun e=>this (by rw[hod,e])
     simp[kV,hne]
 have hgd:good (bB env' box' n u'):=by
  obtain⟨c1,c2⟩:=SE hc hTs
  refine⟨by rw[hq];rfl,fun b=>(c1 b).trans (by simp[bB]),fun t=> ?_⟩
  rcases hk t with h1|⟨h1,h2⟩
  ·exact .inl h1
  ·refine .inr ((c2 t fun o ho=> ?_).trans h1)
   have:=List.all_eq_true.1 h2 o ho
   simpa using this
 have hfin:uz P cx .any l.toArray k ch good l.length (Array.replicate l.length false) (bB env box n []):=by
  have:=Ja (ops:=l.toArray) (md:= .any) (pops:=pre.toArray) (by simpa using ho) (A':=bB env' box' n u') (by rw[kv];exact hpan) hgd order pre (Array.replicate l.length false) (bB env box n []) rs hTs (by simpa using hp) (fun o ho=>by have:=List.all_eq_true.1 hg o ho;simpa using this) hgood hB hc (l.length-(order.length+1))
  rwa [show order.length+1+(l.length-(order.length+1))=l.length by omega] at this
 refine wpIn_region_any hm ?_
 rw[show l.toArray.size=l.length by simp]
 refine I9 (Q':=good) (Q:=fun e a' w'=>∃ι' A',Sat cx ι' A' a' w'∧_) (fun ι1 A1 a1 w1 hs1 hg1=> ?_) _ _ (bB env box n []) ι a _ hs0.drew hfin
 refine⟨ι1,(⟨keep,box,n+1000⟩:LS).toAS,hs1.ent ⟨fun t=> ?_,fun b x h=> ?_,fun b hb=> ?_⟩,_,rfl,hQ⟩
 ·rcases hg1.2.2 t with h|h
  ·exact .inl h
  ·exact .inr h.symm
 ·rw[hg1.1];exact h
 ·have:=(hg1.2.1 b).1 hb
  exact .inl (by show b<n+1000;omega)
theorem DW {g:FuncId} {rs:Array ResultVar} {x:AV} {ns:List Nat} {L:LS} (h:jb P rs x .ret L):IX P g rs x ns .ret L:=h
theorem SF {c:Operand} {x y:Code} {Q:Exit→LS→Prop} {env:Env} {box:ay} {n:Nat} (hc:aI env c= .v (.bool true)) (h:aY P cx x Q ⟨env,box,n⟩):aY P cx (.cond c x y) Q ⟨env,box,n⟩:=Gl (b:=true) (by rw[show(⟨env,box,n⟩:LS).toAS.eval=aI env from kv _ _ _ _];exact hc) (fun _=>h) (fun h=>by cases h)
theorem Jd:([]:List (Option Oper))=([]:List Oper).map some:=rfl
theorem kG {x:Option Oper} {a:Oper} {xs:List (Option Oper)} {ys:List Oper} (h0:x=some a) (h:xs=ys.map some):x::xs=(a::ys).map some:=by rw[h0,h];rfl
end
end
theorem Je {P:Program} {cx:Cx} {κ:Type} {σ:κ→Type} {c:Code} {Q:Exit→LS→Prop} (hm:P.follows .mixedOrders=true) (I:∀k,σ k→LS) (μ:∀k,σ k→Nat)
 (round:∀k s,W P cx c (gX (fun A'=>∃(s':σ k) (r':Nat→Nat),LCut cx r' A' (I k s')∧μ k s'<μ k s) Q) (I k s)):∀(k:κ) (s₀:σ k) (A:LS),dn cx.N c=true→LCut cx id A (I k s₀)→jL P cx c Q A:=
 fun k s₀ _ hok h₀=>iD hm (I k) (μ k) id s₀ hok h₀ (round k)
section
variable {P:Program} {cx:Cx}
theorem Jf {σ:Type} {c:Code} {Q:Exit→LS→Prop} {A:LS} (I:σ→LS) (μ:σ→Nat) (r:Nat→Nat) (s₀:σ) (h₀:LCut cx r A (I s₀))
 (round:∀s,aY P cx c (gX (fun A'=>∃(s':σ) (r':Nat→Nat),LCut cx r' A' (I s')∧μ s'<μ s) Q) (I s)):jL P cx c Q A:=by
 refine Gm (fun s=>(I s).toAS) μ _ r s₀ h₀.cut fun s=> ?_
 refine AWp.mono (round s) ?_
 rintro e A' ⟨L,rfl,hL⟩
 cases e with
 |normal=>
  obtain⟨s',r',h1,h2⟩:=hL
  exact⟨s',_,r',h1.cut,h2⟩
 |_=>exact⟨L,rfl,hL⟩
end
end Go.Proofs.YtlikpcpllahalaaGreat.V
