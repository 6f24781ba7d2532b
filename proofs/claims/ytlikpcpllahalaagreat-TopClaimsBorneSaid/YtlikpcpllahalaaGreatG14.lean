/- Parts of the proof. -/
import Derived.Test.YtlikpcpllahalaaGreatG13
set_option linter.unusedSimpArgs false
set_option linter.unusedVariables false
namespace Go.Proofs.YtlikpcpllahalaaGreat.V
open Go.RowKit
set_option maxRecDepth 100000
section
structure Lv (A B:Prop):Prop where
 a:A
 b:B
structure Lf (A:Prop):Prop where
 a:A
structure HK (p:Prop):Prop where
 a:p
structure Tr (p:Prop):Prop where
theorem DN:Tr True:=⟨⟩
theorem bK {p:Prop} (h:HK p):p:=h.a
theorem oK {p:Prop} (h:p):HK p:=⟨h⟩
theorem I {A B:Prop} (a:A) (b:B):A∧B:=⟨a,b⟩
theorem tt:True:=True.intro
theorem lv {A B:Prop} (a:A) (b:B):Lv A B:=⟨a,b⟩
theorem lf {A:Prop} (a:A):Lf A:=⟨a⟩
theorem l1 {A:Prop} (a:A):Lv (Lf A) True:=⟨⟨a⟩,tt⟩
theorem l2 {A B:Prop} (a:A) (b:B):Lv (Lf A) B:=⟨⟨a⟩,b⟩
theorem o4 {P:(Env→ay→Prop)→Prop} {A:∀K,P K→Prop} (h:∀K (hK:P K),A K hK):HK (∀K (hK:P K),Lf (A K hK)):=⟨fun K hK=>⟨h K hK⟩⟩
theorem l4 {P:(Env→ay→Prop)→Prop} {A:∀K,P K→Prop} (h:∀K (hK:P K),A K hK):Lv (HK (∀K (hK:P K),Lf (A K hK))) True:=⟨o4 h,tt⟩
theorem l3 {p:Prop} {A:p→Prop} (h:∀hq,A hq):Lv (∀hq,Lf (A hq)) True:=⟨fun hq=>⟨h hq⟩,tt⟩
structure CF (ns:List Nat) (P:Program) (f:FuncId) (xs:List AV) (x:AV):Prop where
 h:Fun P f xs x
section
variable {P:Program} {cx:Cx} {env:Env} {box:ay} {nm:Nat} {o:Oper} {K:OpS→Prop} {x:AV} {hyp:Prop} {f:FuncId} {l xs:List AV} {fp:List (Nat×Bx)}
theorem cG (h:bW P cx hyp env box nm f l o K):bW P cx hyp env box nm f l o K:=h
theorem mQ (hc:bn P f) (hF:Fun P f xs x) (hK:K ⟨[],x,[]⟩) (hd:zL (xs.all AV.isData=true):=by(apply xA;first|(simp;done)|(simp[go_sem];done)))
 (hl:l=xs:=by with_unfolding_all rfl):bW P cx hyp env box nm f l o K:=Iz hc hF hl hd hK
theorem ae (hF:Fun P f xs x) (hK:K ⟨[],x,[]⟩) (hl:l=xs:=by with_unfolding_all rfl) (hd:zL (xs.all AV.isData=true):=by(apply xA;first|(simp;done)|(simp[go_sem];done)))
 (hc:bn P f:=by simp only[go_sem]):bW P cx hyp env box nm f l o K:=Iz hc hF hl hd hK
theorem aN {ns:List Nat} {pb:ay} {kb:List (Nat×Option Bx)} (hF:CF ns P f xs x) (hK:K ⟨fp,x,kb⟩) (hy:bQ box ns=pb:=by(simp only[go_sem,↓reduceIte];try with_unfolding_all rfl)) (hl:bY pb pb=fp:=by(simp only[go_sem,↓reduceIte];try with_unfolding_all rfl))
 (hk:kills fp=kb:=by(simp only[go_sem,↓reduceIte];try with_unfolding_all rfl)) (hz:dx (fz pb 6) l xs:=by(with_unfolding_all simp[go_sem,aH,hx];done)) (hc:bn P f:=by simp only[go_sem]):bW P cx hyp env box nm f l o K:=zJ ns hc hF.h hy hl hk hz hK
theorem aB {args:List AV} {fp fp':List (Nat×Bx)} {tb tb':List (Nat×Option Bx)} {x':AV} (r:List Nat) (hF:aC P f fp args x tb) (hK:K ⟨fp',x',tb'⟩)
 (h1:kZ (look r) fp=fp':=by(simp only[go_sem,↓reduceIte];try rfl)) (h2:fD (look r) tb=tb':=by(simp only[go_sem,↓reduceIte];try rfl)) (h3:x.ren (look r)=x':=by(simp only[go_sem,↓reduceIte];try rfl)) (hl:l=args.map (AV.ren (look r)):=by(simp[go_sem];done))
 (hs:(args.all (AV.names (inl fp))&&okF fp&&lg fp tb&&x.names (fun b=>inl fp b||inl tb b)&&mJ (look r) (lY fp++lh tb))=true:=by(simp[go_sem];done)) (hfp:rA box fp':=by(simp[go_sem];done)) (hfr:xn nm fp' tb':=by(simp[go_sem];done))
 (hc:bn P f:=by simp only[go_sem]):bW P cx hyp env box nm f l o K:=Q5 r hc hF hl hs h1 h2 h3 hfp hfr hK
theorem d9 {pb:ay} (ns:List Nat) (hF:Fun P f xs x) (hK:K ⟨fp,x,[]⟩) (hp:bQ box ns=pb:=by(simp only[go_sem,↓reduceIte];try rfl)) (hl:bY pb pb=fp:=by(simp only[go_sem,↓reduceIte];try rfl)) (hx:x.flat0=true:=by simp[AV.flat0])
 (hfz:dx (fz pb 6) l xs:=by(first|(simp only[go_sem];done)|(simp[go_sem,aH];done))) (hc:bn P f:=by simp only[go_sem]):bW P cx hyp env box nm f l o K:=Q4 ns hc hF hp hl hx hfz hK
end
theorem core {G H:Prop} (h:(H→G)∧Tr H:=by
 refine⟨?_,?_⟩
 ·intro hZ
  try(with_reducible apply oK;intro K hK)
  with_reducible (repeat1' (first|exact trivial|(apply Dw;simp only[go_sem,↓reduceIte,hx];try rfl)|apply Aa|apply As|apply Au|apply Av|apply Aj|apply At|apply Aw|apply Ab|apply Ac|apply Ad|apply Ae|apply Af|apply Ag|apply Ah|apply Ai|apply Ak|apply Al|apply DI|apply Da|apply Db|apply Dc|apply De|apply Df|apply Dg|((first|apply An|apply Ao);(case hs=>with_unfolding_all rfl))|apply Am|apply Ap|apply Aq|apply Ar|apply Ax|apply Ay|apply Az|apply Ba|apply Bb|apply Bc|apply Bd|apply Be|apply Ca|apply Cb|apply Cc|apply Cd|apply Ce|apply Cf|apply Cg|apply Ch|apply Ci|apply Bf|apply Cj|apply Ck|apply Cl|apply Cm|apply Cn|apply Co|apply Cp|(apply Dv;with_unfolding_all rfl)|((first|apply Dt|apply Du);kernel_rfl)|(apply Dx;simp only[dA,List.map_cons,List.map_nil,List.cons_append,List.nil_append,OpS.nm,OpS.reads,OpS.turns,Nat.reduceAdd];try with_unfolding_all rfl)|(apply Dy;intro hg;try simp only[hg])|(apply Dz;intro hq;try simp only[kF] at hq;try(exfalso;clear hZ;omega))|(apply DC;intro K hK)|(apply DD;repeat(first|exact um rfl|apply uo))|(apply DF;unfold mI;kernel_rfl)|(apply xA;first|(simp;done)|(simp[go_sem];done))|(refine hK _ _ ?_;clear hK;clear K)|(refine cG ?_;first|refine ae hi ?_|refine ae (hi _) ?_|refine ae (hi _ _) ?_|refine ae (hi _ _ _) ?_|refine ae (hi _ _ _ _) ?_|refine aN hi ?_|refine ae hi.1 ?_|refine ae (hi.1 _) ?_|refine ae (hi.1 _ _) ?_|refine ae (hi.1 _ _ _) ?_|refine ae (hi.1 _ _ _ _) ?_|refine aN hi.1 ?_|refine ae hi.2.1 ?_|refine ae (hi.2.1 _) ?_|refine ae (hi.2.1 _ _) ?_|refine ae (hi.2.1 _ _ _) ?_|refine ae (hi.2.1 _ _ _ _) ?_|refine aN hi.2.1 ?_|refine ae hi.2 ?_|refine ae (hi.2 _) ?_|refine ae (hi.2 _ _) ?_|refine ae (hi.2 _ _ _) ?_|refine ae (hi.2 _ _ _ _) ?_|refine aN hi.2 ?_|refine ae hi.2.2.1 ?_|refine ae (hi.2.2.1 _) ?_|refine ae (hi.2.2.1 _ _) ?_|refine ae (hi.2.2.1 _ _ _) ?_|refine ae (hi.2.2.1 _ _ _ _) ?_|refine aN hi.2.2.1 ?_|refine ae hi.2.2 ?_|refine ae (hi.2.2 _) ?_|refine ae (hi.2.2 _ _) ?_|refine ae (hi.2.2 _ _ _) ?_|refine ae (hi.2.2 _ _ _ _) ?_|refine aN hi.2.2 ?_|refine ae hi.2.2.2.1 ?_|refine ae (hi.2.2.2.1 _) ?_|refine ae (hi.2.2.2.1 _ _) ?_|refine ae (hi.2.2.2.1 _ _ _) ?_|refine ae (hi.2.2.2.1 _ _ _ _) ?_|refine aN hi.2.2.2.1 ?_|refine ae hi.2.2.2 ?_|refine ae (hi.2.2.2 _) ?_|refine ae (hi.2.2.2 _ _) ?_|refine ae (hi.2.2.2 _ _ _) ?_|refine ae (hi.2.2.2 _ _ _ _) ?_|refine aN hi.2.2.2 ?_|refine ae hi.2.2.2.2.1 ?_|refine ae (hi.2.2.2.2.1 _) ?_|refine ae (hi.2.2.2.2.1 _ _) ?_|refine ae (hi.2.2.2.2.1 _ _ _) ?_|refine ae (hi.2.2.2.2.1 _ _ _ _) ?_|refine aN hi.2.2.2.2.1 ?_|refine ae hi.2.2.2.2 ?_|refine ae (hi.2.2.2.2 _) ?_|refine ae (hi.2.2.2.2 _ _) ?_|refine ae (hi.2.2.2.2 _ _ _) ?_|refine ae (hi.2.2.2.2 _ _ _ _) ?_|refine aN hi.2.2.2.2 ?_|refine ae hi.2.2.2.2.2.1 ?_|refine ae (hi.2.2.2.2.2.1 _) ?_|refine ae (hi.2.2.2.2.2.1 _ _) ?_|refine ae (hi.2.2.2.2.2.1 _ _ _) ?_|refine ae (hi.2.2.2.2.2.1 _ _ _ _) ?_|refine aN hi.2.2.2.2.2.1 ?_|refine ae hi.2.2.2.2.2 ?_|refine ae (hi.2.2.2.2.2 _) ?_|refine ae (hi.2.2.2.2.2 _ _) ?_|refine ae (hi.2.2.2.2.2 _ _ _) ?_|refine ae (hi.2.2.2.2.2 _ _ _ _) ?_|refine aN hi.2.2.2.2.2 ?_|refine ae hi.2.2.2.2.2.2.1 ?_|refine ae (hi.2.2.2.2.2.2.1 _) ?_|refine ae (hi.2.2.2.2.2.2.1 _ _) ?_|refine ae (hi.2.2.2.2.2.2.1 _ _ _) ?_|refine ae (hi.2.2.2.2.2.2.1 _ _ _ _) ?_|refine aN hi.2.2.2.2.2.2.1 ?_|refine ae hi.2.2.2.2.2.2 ?_|refine ae (hi.2.2.2.2.2.2 _) ?_|refine ae (hi.2.2.2.2.2.2 _ _) ?_|refine ae (hi.2.2.2.2.2.2 _ _ _) ?_|refine ae (hi.2.2.2.2.2.2 _ _ _ _) ?_|refine aN hi.2.2.2.2.2.2 ?_|refine ae hi.2.2.2.2.2.2.2.1 ?_|refine ae (hi.2.2.2.2.2.2.2.1 _) ?_|refine ae (hi.2.2.2.2.2.2.2.1 _ _) ?_|refine ae (hi.2.2.2.2.2.2.2.1 _ _ _) ?_|refine ae (hi.2.2.2.2.2.2.2.1 _ _ _ _) ?_|refine aN hi.2.2.2.2.2.2.2.1 ?_|refine ae hi.2.2.2.2.2.2.2 ?_|refine ae (hi.2.2.2.2.2.2.2 _) ?_|refine ae (hi.2.2.2.2.2.2.2 _ _) ?_|refine ae (hi.2.2.2.2.2.2.2 _ _ _) ?_|refine ae (hi.2.2.2.2.2.2.2 _ _ _ _) ?_|refine aN hi.2.2.2.2.2.2.2 ?_|refine ae hi.2.2.2.2.2.2.2.2.1 ?_|refine ae (hi.2.2.2.2.2.2.2.2.1 _) ?_|refine ae (hi.2.2.2.2.2.2.2.2.1 _ _) ?_|refine ae (hi.2.2.2.2.2.2.2.2.1 _ _ _) ?_|refine ae (hi.2.2.2.2.2.2.2.2.1 _ _ _ _) ?_|refine aN hi.2.2.2.2.2.2.2.2.1 ?_|refine ae hi.2.2.2.2.2.2.2.2 ?_|refine ae (hi.2.2.2.2.2.2.2.2 _) ?_|refine ae (hi.2.2.2.2.2.2.2.2 _ _) ?_|refine ae (hi.2.2.2.2.2.2.2.2 _ _ _) ?_|refine ae (hi.2.2.2.2.2.2.2.2 _ _ _ _) ?_|refine aN hi.2.2.2.2.2.2.2.2 ?_|refine ae hi.2.2.2.2.2.2.2.2.2.1 ?_|refine ae (hi.2.2.2.2.2.2.2.2.2.1 _) ?_|refine ae (hi.2.2.2.2.2.2.2.2.2.1 _ _) ?_|refine ae (hi.2.2.2.2.2.2.2.2.2.1 _ _ _) ?_|refine ae (hi.2.2.2.2.2.2.2.2.2.1 _ _ _ _) ?_|refine aN hi.2.2.2.2.2.2.2.2.2.1 ?_|refine ae hi.2.2.2.2.2.2.2.2.2 ?_|refine ae (hi.2.2.2.2.2.2.2.2.2 _) ?_|refine ae (hi.2.2.2.2.2.2.2.2.2 _ _) ?_|refine ae (hi.2.2.2.2.2.2.2.2.2 _ _ _) ?_|refine ae (hi.2.2.2.2.2.2.2.2.2 _ _ _ _) ?_|refine aN hi.2.2.2.2.2.2.2.2.2 ?_|refine ae hi.2.2.2.2.2.2.2.2.2.2.1 ?_|refine ae (hi.2.2.2.2.2.2.2.2.2.2.1 _) ?_|refine ae (hi.2.2.2.2.2.2.2.2.2.2.1 _ _) ?_|refine ae (hi.2.2.2.2.2.2.2.2.2.2.1 _ _ _) ?_|refine ae (hi.2.2.2.2.2.2.2.2.2.2.1 _ _ _ _) ?_|refine aN hi.2.2.2.2.2.2.2.2.2.2.1 ?_|refine ae hi.2.2.2.2.2.2.2.2.2.2 ?_|refine ae (hi.2.2.2.2.2.2.2.2.2.2 _) ?_|refine ae (hi.2.2.2.2.2.2.2.2.2.2 _ _) ?_|refine ae (hi.2.2.2.2.2.2.2.2.2.2 _ _ _) ?_|refine ae (hi.2.2.2.2.2.2.2.2.2.2 _ _ _ _) ?_|refine aN hi.2.2.2.2.2.2.2.2.2.2 ?_|refine ae hi.2.2.2.2.2.2.2.2.2.2.2.1 ?_|refine ae (hi.2.2.2.2.2.2.2.2.2.2.2.1 _) ?_|refine ae (hi.2.2.2.2.2.2.2.2.2.2.2.1 _ _) ?_|refine ae (hi.2.2.2.2.2.2.2.2.2.2.2.1 _ _ _) ?_|refine ae (hi.2.2.2.2.2.2.2.2.2.2.2.1 _ _ _ _) ?_|refine aN hi.2.2.2.2.2.2.2.2.2.2.2.1 ?_|refine ae hi.2.2.2.2.2.2.2.2.2.2.2 ?_|refine ae (hi.2.2.2.2.2.2.2.2.2.2.2 _) ?_|refine ae (hi.2.2.2.2.2.2.2.2.2.2.2 _ _) ?_|refine ae (hi.2.2.2.2.2.2.2.2.2.2.2 _ _ _) ?_|refine ae (hi.2.2.2.2.2.2.2.2.2.2.2 _ _ _ _) ?_|refine aN hi.2.2.2.2.2.2.2.2.2.2.2 ?_|refine ae hi.2.2.2.2.2.2.2.2.2.2.2.2.1 ?_|refine ae (hi.2.2.2.2.2.2.2.2.2.2.2.2.1 _) ?_|refine ae (hi.2.2.2.2.2.2.2.2.2.2.2.2.1 _ _) ?_|refine ae (hi.2.2.2.2.2.2.2.2.2.2.2.2.1 _ _ _) ?_|refine ae (hi.2.2.2.2.2.2.2.2.2.2.2.2.1 _ _ _ _) ?_|refine aN hi.2.2.2.2.2.2.2.2.2.2.2.2.1 ?_|refine ae hi.2.2.2.2.2.2.2.2.2.2.2.2 ?_|refine ae (hi.2.2.2.2.2.2.2.2.2.2.2.2 _) ?_|refine ae (hi.2.2.2.2.2.2.2.2.2.2.2.2 _ _) ?_|refine ae (hi.2.2.2.2.2.2.2.2.2.2.2.2 _ _ _) ?_|refine ae (hi.2.2.2.2.2.2.2.2.2.2.2.2 _ _ _ _) ?_|refine aN hi.2.2.2.2.2.2.2.2.2.2.2.2 ?_)|(clear hZ;omega)|(exfalso;clear hZ;first|contradiction|omega)))
  all_goals(refine Lf.a ?_;(try(revert K;have hW:=hZ;clear hW;refine bK ?_));(repeat(first|(revert hq;have hW:=hZ;clear hW)|(revert hg;have hW:=hZ;clear hW)));(first|((repeat(rcases hZ with⟨-,hZ⟩));refine' Lv.a hZ)|(repeat(first|(with_reducible refine' Lv.a hZ)|(rcases hZ with⟨-,hZ⟩)))))
  all_goals(first|exact True|skip)
 first|exact DN|exact⟨⟩):H→G:=h.1
theorem Sj {G H:Prop} (h:(H→G)∧Tr H:=by
 refine⟨?_,?_⟩
 ·intro hZ
  try(with_reducible apply oK;intro K hK)
  with_reducible (repeat1' (first|exact trivial|(apply Dw;simp only[go_sem,↓reduceIte,hx];try rfl)|apply Aa|apply Ab|apply Ac|apply Ad|apply Ae|apply Af|apply Ag|apply Ah|apply Ai|apply Ak|apply Al|apply DI|apply Da|apply Db|apply Dc|apply De|apply Df|apply Dg|((first|apply An|apply Ao);(case hs=>with_unfolding_all rfl))|(apply Iw;(case hn=>with_unfolding_all rfl);(case hS|hc=>(simp only[go_sem,↓reduceIte,hx];try rfl));(case hI=>with_unfolding_all (first|exact hi|exact hi.1|exact hi.2.1|exact hi.2.2.1|exact hi.2.2.2.1|exact hi.2.2.2.2.1|exact hi.2.2.2.2.2.1|exact hi.2.2.2.2.2.2.1|exact hi.2|exact hi.2.2|exact hi.2.2.2|exact hi.2.2.2.2|exact hi.2.2.2.2.2|exact hi.2.2.2.2.2.2)))|(apply Iy;(case hd=>(repeat(first|exact um rfl|apply uo)));(case hn=>with_unfolding_all rfl);(case hg|hS|hc=>(simp only[go_sem,↓reduceIte,hx];try rfl));(case hI=>with_unfolding_all (first|exact hi|exact hi.1|exact hi.2.1|exact hi.2.2.1|exact hi.2.2.2.1|exact hi.2.2.2.2.1|exact hi.2.2.2.2.2.1|exact hi.2.2.2.2.2.2.1|exact hi.2|exact hi.2.2|exact hi.2.2.2|exact hi.2.2.2.2|exact hi.2.2.2.2.2|exact hi.2.2.2.2.2.2)))|apply Am|apply Ap|apply Aq|apply Ar|apply As|apply Au|apply Av|apply Aj|apply At|apply Aw|apply Ax|apply Ay|apply Az|apply Ba|apply Bb|apply Bc|apply Bd|apply Be|apply Ca|apply Cb|apply Cc|apply Cd|apply Ce|apply Cf|apply Cg|apply Ch|apply Ci|apply Bf|apply Cj|apply Ck|apply Cl|apply Cm|apply Cn|apply Co|apply Cp|(apply Dv;with_unfolding_all rfl)|((first|apply Dt|apply Du);kernel_rfl)|(apply Dx;simp only[dA,List.map_cons,List.map_nil,List.cons_append,List.nil_append,OpS.nm,OpS.reads,OpS.turns,Nat.reduceAdd];try with_unfolding_all rfl)|(apply Dy;intro hg;try simp only[hg])|(apply Dz;intro hq;try simp only[kF] at hq;try(exfalso;clear hZ;omega))|(apply DC;intro K hK)|(apply DD;repeat(first|exact um rfl|apply uo))|(apply DF;unfold mI;kernel_rfl)|(apply xA;first|(simp;done)|(simp[go_sem];done))|(refine hK _ _ ?_;clear hK;clear K)|(refine cG ?_;first|refine ae hi ?_|refine ae (hi _) ?_|refine ae (hi _ _) ?_|refine ae (hi _ _ _) ?_|refine ae (hi _ _ _ _) ?_|refine aN hi ?_|refine ae hi.1 ?_|refine ae (hi.1 _) ?_|refine ae (hi.1 _ _) ?_|refine ae (hi.1 _ _ _) ?_|refine ae (hi.1 _ _ _ _) ?_|refine aN hi.1 ?_|refine ae hi.2.1 ?_|refine ae (hi.2.1 _) ?_|refine ae (hi.2.1 _ _) ?_|refine ae (hi.2.1 _ _ _) ?_|refine ae (hi.2.1 _ _ _ _) ?_|refine aN hi.2.1 ?_|refine ae hi.2 ?_|refine ae (hi.2 _) ?_|refine ae (hi.2 _ _) ?_|refine ae (hi.2 _ _ _) ?_|refine ae (hi.2 _ _ _ _) ?_|refine aN hi.2 ?_|refine ae hi.2.2.1 ?_|refine ae (hi.2.2.1 _) ?_|refine ae (hi.2.2.1 _ _) ?_|refine ae (hi.2.2.1 _ _ _) ?_|refine ae (hi.2.2.1 _ _ _ _) ?_|refine aN hi.2.2.1 ?_|refine ae hi.2.2 ?_|refine ae (hi.2.2 _) ?_|refine ae (hi.2.2 _ _) ?_|refine ae (hi.2.2 _ _ _) ?_|refine ae (hi.2.2 _ _ _ _) ?_|refine aN hi.2.2 ?_|refine ae hi.2.2.2.1 ?_|refine ae (hi.2.2.2.1 _) ?_|refine ae (hi.2.2.2.1 _ _) ?_|refine ae (hi.2.2.2.1 _ _ _) ?_|refine ae (hi.2.2.2.1 _ _ _ _) ?_|refine aN hi.2.2.2.1 ?_|refine ae hi.2.2.2 ?_|refine ae (hi.2.2.2 _) ?_|refine ae (hi.2.2.2 _ _) ?_|refine ae (hi.2.2.2 _ _ _) ?_|refine ae (hi.2.2.2 _ _ _ _) ?_|refine aN hi.2.2.2 ?_|refine ae hi.2.2.2.2.1 ?_|refine ae (hi.2.2.2.2.1 _) ?_|refine ae (hi.2.2.2.2.1 _ _) ?_|refine ae (hi.2.2.2.2.1 _ _ _) ?_|refine ae (hi.2.2.2.2.1 _ _ _ _) ?_|refine aN hi.2.2.2.2.1 ?_|refine ae hi.2.2.2.2 ?_|refine ae (hi.2.2.2.2 _) ?_|refine ae (hi.2.2.2.2 _ _) ?_|refine ae (hi.2.2.2.2 _ _ _) ?_|refine ae (hi.2.2.2.2 _ _ _ _) ?_|refine aN hi.2.2.2.2 ?_|refine ae hi.2.2.2.2.2.1 ?_|refine ae (hi.2.2.2.2.2.1 _) ?_|refine ae (hi.2.2.2.2.2.1 _ _) ?_|refine ae (hi.2.2.2.2.2.1 _ _ _) ?_|refine ae (hi.2.2.2.2.2.1 _ _ _ _) ?_|refine aN hi.2.2.2.2.2.1 ?_|refine ae hi.2.2.2.2.2 ?_|refine ae (hi.2.2.2.2.2 _) ?_|refine ae (hi.2.2.2.2.2 _ _) ?_|refine ae (hi.2.2.2.2.2 _ _ _) ?_|refine ae (hi.2.2.2.2.2 _ _ _ _) ?_|refine aN hi.2.2.2.2.2 ?_|refine ae hi.2.2.2.2.2.2.1 ?_|refine ae (hi.2.2.2.2.2.2.1 _) ?_|refine ae (hi.2.2.2.2.2.2.1 _ _) ?_|refine ae (hi.2.2.2.2.2.2.1 _ _ _) ?_|refine ae (hi.2.2.2.2.2.2.1 _ _ _ _) ?_|refine aN hi.2.2.2.2.2.2.1 ?_|refine ae hi.2.2.2.2.2.2 ?_|refine ae (hi.2.2.2.2.2.2 _) ?_|refine ae (hi.2.2.2.2.2.2 _ _) ?_|refine ae (hi.2.2.2.2.2.2 _ _ _) ?_|refine ae (hi.2.2.2.2.2.2 _ _ _ _) ?_|refine aN hi.2.2.2.2.2.2 ?_|refine ae hi.2.2.2.2.2.2.2.1 ?_|refine ae (hi.2.2.2.2.2.2.2.1 _) ?_|refine ae (hi.2.2.2.2.2.2.2.1 _ _) ?_|refine ae (hi.2.2.2.2.2.2.2.1 _ _ _) ?_|refine ae (hi.2.2.2.2.2.2.2.1 _ _ _ _) ?_|refine aN hi.2.2.2.2.2.2.2.1 ?_|refine ae hi.2.2.2.2.2.2.2 ?_|refine ae (hi.2.2.2.2.2.2.2 _) ?_|refine ae (hi.2.2.2.2.2.2.2 _ _) ?_|refine ae (hi.2.2.2.2.2.2.2 _ _ _) ?_|refine ae (hi.2.2.2.2.2.2.2 _ _ _ _) ?_|refine aN hi.2.2.2.2.2.2.2 ?_|refine ae hi.2.2.2.2.2.2.2.2.1 ?_|refine ae (hi.2.2.2.2.2.2.2.2.1 _) ?_|refine ae (hi.2.2.2.2.2.2.2.2.1 _ _) ?_|refine ae (hi.2.2.2.2.2.2.2.2.1 _ _ _) ?_|refine ae (hi.2.2.2.2.2.2.2.2.1 _ _ _ _) ?_|refine aN hi.2.2.2.2.2.2.2.2.1 ?_|refine ae hi.2.2.2.2.2.2.2.2 ?_|refine ae (hi.2.2.2.2.2.2.2.2 _) ?_|refine ae (hi.2.2.2.2.2.2.2.2 _ _) ?_|refine ae (hi.2.2.2.2.2.2.2.2 _ _ _) ?_|refine ae (hi.2.2.2.2.2.2.2.2 _ _ _ _) ?_|refine aN hi.2.2.2.2.2.2.2.2 ?_|refine ae hi.2.2.2.2.2.2.2.2.2.1 ?_|refine ae (hi.2.2.2.2.2.2.2.2.2.1 _) ?_|refine ae (hi.2.2.2.2.2.2.2.2.2.1 _ _) ?_|refine ae (hi.2.2.2.2.2.2.2.2.2.1 _ _ _) ?_|refine ae (hi.2.2.2.2.2.2.2.2.2.1 _ _ _ _) ?_|refine aN hi.2.2.2.2.2.2.2.2.2.1 ?_|refine ae hi.2.2.2.2.2.2.2.2.2 ?_|refine ae (hi.2.2.2.2.2.2.2.2.2 _) ?_|refine ae (hi.2.2.2.2.2.2.2.2.2 _ _) ?_|refine ae (hi.2.2.2.2.2.2.2.2.2 _ _ _) ?_|refine ae (hi.2.2.2.2.2.2.2.2.2 _ _ _ _) ?_|refine aN hi.2.2.2.2.2.2.2.2.2 ?_|refine ae hi.2.2.2.2.2.2.2.2.2.2.1 ?_|refine ae (hi.2.2.2.2.2.2.2.2.2.2.1 _) ?_|refine ae (hi.2.2.2.2.2.2.2.2.2.2.1 _ _) ?_|refine ae (hi.2.2.2.2.2.2.2.2.2.2.1 _ _ _) ?_|refine ae (hi.2.2.2.2.2.2.2.2.2.2.1 _ _ _ _) ?_|refine aN hi.2.2.2.2.2.2.2.2.2.2.1 ?_|refine ae hi.2.2.2.2.2.2.2.2.2.2 ?_|refine ae (hi.2.2.2.2.2.2.2.2.2.2 _) ?_|refine ae (hi.2.2.2.2.2.2.2.2.2.2 _ _) ?_|refine ae (hi.2.2.2.2.2.2.2.2.2.2 _ _ _) ?_|refine ae (hi.2.2.2.2.2.2.2.2.2.2 _ _ _ _) ?_|refine aN hi.2.2.2.2.2.2.2.2.2.2 ?_|refine ae hi.2.2.2.2.2.2.2.2.2.2.2.1 ?_|refine ae (hi.2.2.2.2.2.2.2.2.2.2.2.1 _) ?_|refine ae (hi.2.2.2.2.2.2.2.2.2.2.2.1 _ _) ?_|refine ae (hi.2.2.2.2.2.2.2.2.2.2.2.1 _ _ _) ?_|refine ae (hi.2.2.2.2.2.2.2.2.2.2.2.1 _ _ _ _) ?_|refine aN hi.2.2.2.2.2.2.2.2.2.2.2.1 ?_|refine ae hi.2.2.2.2.2.2.2.2.2.2.2 ?_|refine ae (hi.2.2.2.2.2.2.2.2.2.2.2 _) ?_|refine ae (hi.2.2.2.2.2.2.2.2.2.2.2 _ _) ?_|refine ae (hi.2.2.2.2.2.2.2.2.2.2.2 _ _ _) ?_|refine ae (hi.2.2.2.2.2.2.2.2.2.2.2 _ _ _ _) ?_|refine aN hi.2.2.2.2.2.2.2.2.2.2.2 ?_|refine ae hi.2.2.2.2.2.2.2.2.2.2.2.2.1 ?_|refine ae (hi.2.2.2.2.2.2.2.2.2.2.2.2.1 _) ?_|refine ae (hi.2.2.2.2.2.2.2.2.2.2.2.2.1 _ _) ?_|refine ae (hi.2.2.2.2.2.2.2.2.2.2.2.2.1 _ _ _) ?_|refine ae (hi.2.2.2.2.2.2.2.2.2.2.2.2.1 _ _ _ _) ?_|refine aN hi.2.2.2.2.2.2.2.2.2.2.2.2.1 ?_|refine ae hi.2.2.2.2.2.2.2.2.2.2.2.2 ?_|refine ae (hi.2.2.2.2.2.2.2.2.2.2.2.2 _) ?_|refine ae (hi.2.2.2.2.2.2.2.2.2.2.2.2 _ _) ?_|refine ae (hi.2.2.2.2.2.2.2.2.2.2.2.2 _ _ _) ?_|refine ae (hi.2.2.2.2.2.2.2.2.2.2.2.2 _ _ _ _) ?_|refine aN hi.2.2.2.2.2.2.2.2.2.2.2.2 ?_)|(clear hZ;omega)|(exfalso;clear hZ;first|contradiction|omega)))
  all_goals(refine Lf.a ?_;(try(revert K;have hW:=hZ;clear hW;refine bK ?_));(repeat(first|(revert hq;have hW:=hZ;clear hW)|(revert hg;have hW:=hZ;clear hW)));(first|((repeat(rcases hZ with⟨-,hZ⟩));refine' Lv.a hZ)|(repeat(first|(with_reducible refine' Lv.a hZ)|(rcases hZ with⟨-,hZ⟩)))))
  all_goals(first|exact True|skip)
 first|exact DN|exact⟨⟩):H→G:=h.1
theorem run {G H X:Prop} (hx:X) (k:H) (h:X→H→G:=by intro hx;have hi:=tt;exact core) (n:Nat:=0):G:=h hx k
theorem aj {G H X Y:Prop} (hx:X) (hi:Y) (k:H) (h:X→Y→H→G:=by intro hx hi;exact core) (n:Nat:=0):G:=h hx hi k
theorem bD {G H X Y:Prop} (hx:X) (hi:Y) (k:H) (h:X→Y→H→G:=by intro hx hi;exact Sj) (n:Nat:=0):G:=h hx hi k
theorem aX {σ:Type} {cx:Cx} {c:Code} {Q:Exit→LS→Prop} {A:LS} (I:σ→LS) (μ:σ→Nat) (r:Nat→Nat) (s₀:σ) (h₀:LCut cx r A (I s₀)) (h:∀s,W Tryz.prog cx c (gX (fun A'=>∃(s':σ) (r':Nat→Nat),LCut cx r' A' (I s')∧μ s'<μ s) Q) (I s)) (hok:dn cx.N c=true:=by rw[hN];kernel_rfl):jL Tryz.prog cx c Q A:=iD mixed I μ r s₀ hok h₀ h
theorem bU {cx:Cx} {c:Code} {Q:Exit→LS→Prop} {A:LS} (m:Nat) (h:uu Tryz.prog cx c Q m A) (hok:dn cx.N c=true:=by rw[hN];kernel_rfl):jL Tryz.prog cx c Q A:=Sa mixed m hok h
theorem aL {cx:Cx} {c:Code} {Q:Exit→LS→Prop} {A:LS} (h:W Tryz.prog cx c Q A) (hok:dn cx.N c=true:=by rw[hN];kernel_rfl):aY Tryz.prog cx c Q A:=Sb mixed hok h
theorem aD {cx:Cx} {a b:Code} {Q:Exit→LS→Prop} {A:LS} (h:W Tryz.prog cx a (gX (fun A=>aY Tryz.prog cx b Q A) Q) A) (hok:dn cx.N a=true:=by rw[hN];kernel_rfl):aY Tryz.prog cx (.seq a b) Q A:=Sd mixed hok h
theorem fq {n:Int} (h1: -9223372036854775808≤n) (h2:n≤9223372036854775807):IntKind.i64.wrap n=n:=by
 unfold IntKind.wrap
 simp[IntKind.bits,IntKind.signed]
 omega
theorem wS (i:Nat) (h:i<9223372036854775807:=by omega):IntKind.i64.wrap ((i:Int)+1)=((i+1:Nat):Int):=by rw[fq]<;>omega
theorem wE {x y:Int} (e:x=y:=by first|rfl|omega) (h1: -9223372036854775808≤x:=by omega) (h2:x≤9223372036854775807:=by omega):IntKind.i64.wrap x=y:=by rw[fq]<;>omega
theorem eT {p:Prop} (h:p:=by omega):p=True:=eq_true h
theorem eF {p:Prop} (h:¬p:=by omega):p=False:=eq_false h
theorem mS {p:Prop} (h:p:=by dsimp only;omega):p:=h
theorem af {f:FuncId} {fn:Func} {c:Code} {args:List AV} {env:Env} {x:AV} (hf:Tryz.prog.funcs[f]? =some fn)
 (h:∀cx:Cx,cx.N=fn.ntmps→cx.R=none→cx.F=(fun _=>none)→args.all AV.lens=true→W Tryz.prog cx c (jb Tryz.prog fn.results x) ⟨env,[],0⟩)
 (hb:fn.body=some c:=by rfl) (hn:Nat.ble args.length fn.ntmps=true:=by rfl) (hok:dn fn.ntmps c=true:=by kernel_rfl) (hA:dP args 0=env:=by simp only[go_sem,↓reduceIte];rfl):Fun Tryz.prog f args x:=
 Py mixed hf hb (Nat.le_of_ble_eq_true hn) hok fun cx hN hR hF hL=>Rf hA (h cx hN hR hF hL)
theorem aW {f:FuncId} {fn:Func} {c:Code} {fp:List (Nat×Bx)} {args:List AV} {env:Env} {box:ay} {x:AV} {tb:List (Nat×Option Bx)} (n:Nat) (hf:Tryz.prog.funcs[f]? =some fn)
 (h:∀cx:Cx,cx.N=fn.ntmps→cx.R=none→(∀b g,cx.F b=some g→inl fp b=true)→(args.all AV.lens=true∧∀b x,ah (lives fp) b=some x→x.cs.all AV.lens=true)→W Tryz.prog cx c (pQ Tryz.prog fn.results fp x tb) ⟨env,box,n⟩)
 (hfp:(fp.all (fun p=> !p.2.cs.isEmpty)&&okF fp&&fp.all (fun p=>decide (p.1<n)))=true:=by simp[go_sem])
 (hb:fn.body=some c:=by rfl) (hn:Nat.ble args.length fn.ntmps=true:=by rfl) (hok:dn fn.ntmps c=true:=by kernel_rfl) (hA:dP args 0=env:=by simp only[go_sem,↓reduceIte];rfl) (hB:lives fp=box:=by simp only[go_sem,↓reduceIte];rfl):aC Tryz.prog f fp args x tb:=
 PK n mixed hf hb (Nat.le_of_ble_eq_true hn) hok hfp fun cx hN hR hF hL=>Rh hA hB (h cx hN hR hF hL)
end
section
variable {P:Program} {cx:Cx} {ι:Nat→Option Nat} {box:Nat→Option Bx} {used:Nat→Prop}
theorem eX {a b:Code} {Q:Exit→LS→Prop} {A:LS} (h:aY P cx a (gX (fun A=>aY P cx b Q A) Q) A):aY P cx (.seq a b) Q A:=by
 refine yN (AWp.mono h ?_)
 rintro e A' ⟨L,rfl,hL⟩
 cases e with
 |normal=>exact hL
 |_=>exact⟨L,rfl,hL⟩
theorem DR {id:Nat} {a:Code} {Q:Exit→LS→Prop} {A:LS} (h:aY P cx a (ja id Q) A):aY P cx (.block id a) Q A:=by
 refine Gj (AWp.mono h ?_)
 rintro e A' ⟨L,rfl,hL⟩
 cases e with
 |exit id'=>
  simp only[yO]
  by_cases hh:id'=id
  ·rw[if_pos hh];simp only[ja,hh] at hL;exact⟨L,rfl,by simpa using hL⟩
  ·rw[if_neg hh];exact⟨L,rfl,by simpa[ja,hh] using hL⟩
 |_=>exact⟨L,rfl,hL⟩
theorem oq {c:Code} {Q:Exit→LS→Prop} {A:LS} (r:Nat→Nat) (A':LS) (h:LCut cx r A A') (hw:aY P cx c Q A'):aY P cx c Q A:=NU h.cut hw
theorem fu {f:FuncId} {fn:Func} {c:Code} {fp:List (Nat×Bx)} {args:List AV} {x:AV} {tb:List (Nat×Option Bx)} (n:Nat) (hf:P.funcs[f]? =some fn) (hb:fn.body=some c) (hn:args.length≤fn.ntmps)
 (hfp:(fp.all (fun p=> !p.2.cs.isEmpty)&&okF fp&&fp.all (fun p=>decide (p.1<n)))=true)
 (h:∀cx:Cx,cx.N=fn.ntmps→cx.R=none→(∀b g,cx.F b=some g→inl fp b=true)→(args.all AV.lens=true∧∀b x,ah (lives fp) b=some x→x.cs.all AV.lens=true)→aY P cx c (pQ P fn.results fp x tb) ⟨dP args 0,lives fp,n⟩):aC P f fp args x tb:=by
 simp only[Bool.and_eq_true] at hfp
 refine Hw hf hb hn hfp.1.1 hfp.1.2 n hfp.2 fun cx hN hR hF hL=> ?_
 have:=h cx hN hR hF hL
 have he:(⟨jK args,ah (lives fp),fun b=>b<n⟩:AS)=LS.toAS ⟨dP args 0,lives fp,n⟩:=by
  unfold LS.toAS bB
  congr 1
  ·funext t
   rw[uf]
   simp[jK]
  ·funext b
   simp
 rw[he]
 refine AWp.mono this ?_
 rintro e A ⟨L,rfl,hL⟩
 cases e with
 |normal=>exact zi hL
 |ret=>exact zi hL
 |_=>exact hL.elim
theorem fw {c:Code} {Q:Exit→LS→Prop} {args:List AV} {env:Env} {fp:List (Nat×Bx)} {box:ay} {n:Nat} (hA:dP args 0=env) (hB:lives fp=box) (h:aY P cx c Q ⟨env,box,n⟩):aY P cx c Q ⟨dP args 0,lives fp,n⟩:=by subst hA hB;exact h
theorem dS {c:Code} {Q:Exit→LS→Prop} {args:List AV} {env:Env} {box:ay} {n:Nat} (hA:dP args 0=env) (h:aY P cx c Q ⟨env,box,n⟩):aY P cx c Q ⟨dP args 0,box,n⟩:=by subst hA;exact h
theorem Sk {a b:Code} {Q:Exit→LS→Prop} {A:LS} (hm:P.follows .mixedOrders=true) (hok:dn cx.N a=true) (S:LS→Prop) (h:W P cx a (gX S Q) A) (h2:∀A',S A'→aY P cx b Q A'):aY P cx (.seq a b) Q A:=by
 refine yN ((nX hm a _ A hok h).mono ?_)
 rintro e A' ⟨L,rfl,hL⟩
 cases e with
 |normal=>exact h2 L hL
 |_=>exact⟨L,rfl,hL⟩
theorem xC {y:Operand} {a b:Code} {p:Prop} {env:Env} {box:ay} {n:Nat} {Q:Exit→LS→Prop} (hy:aI env y= .bit p) (h1:p→aY P cx a Q ⟨env,box,n⟩) (h2:aY P cx b Q ⟨env,box,n⟩):aY P cx (.cond y a b) Q ⟨env,box,n⟩:=by
 intro ι ac w hs
 have hv:=hs.eval y
 rw[kv,hy] at hv
 obtain⟨b,hb,hp⟩:=hv.bit'
 exact wpIn_cond_split hb (fun e=>h1 (hp e) ι ac w hs) (fun _=>h2 ι ac w hs)
theorem Sm {c:Code} {Q:Exit→LS→Prop} {A:LS} (tm b k:Nat) (ty:TypeId) (h0:bf A.env tm= .v (.slice none 0 0)) (hb:A.next≤b) (h:aY P cx c Q ⟨(tm,.osl b k 0 0)::A.env,(b,some ⟨ty,[]⟩)::A.box,b+1⟩):aY P cx c Q A:=
 fun ι a w hs=>h ι a w (IE tm b k ty h0 hb hs)
theorem rP {c:Code} {Q:Exit→LS→Prop} {env:Env} {box pb:ay} {n:Nat} (ns:List Nat) (env':Env) (box':ay) (hp:bQ box ns=pb) (he:rJ pb env env') (hb:pW ns pb box box') (h:aY P cx c Q ⟨env',box',n⟩):aY P cx c Q ⟨env,box,n⟩:=
 fun ι a w hs=>h ι a w (DK ns hp he hb hs)
end
end Go.Proofs.YtlikpcpllahalaaGreat.V
