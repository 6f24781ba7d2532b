/- The steps of a reckoning, each chosen by the form of what stands ahead. -/
import Derived.Test.YtkagkiepicepeaaV18
set_option linter.unusedSimpArgs false
set_option linter.unusedVariables false
namespace Go.Proofs.Ytkagkiepicepeaa.V
open Go.RowKit
variable {P : Program} {cx : Cx} {ops : Array Oper} {draw : Bool} {n0 i j nm m n : Nat} {rest : List Oper} {env : Env} {box : Boxes} {u : List Nat} {acc : List (List Nat × List Nat)} {K : Env → Boxes → Prop} {S : OpS} {c : Prop}
  {op : Op} {ty : TypeId} {pos : String} {after : Array Edge} {dst : Option Tmp} {d : Tmp} {x : AV} {fp : List (Nat × Bx)} {g : Bool} {Q : Exit → LS → Prop} {A : LS} {a b : Code}

def ByD (p : Prop) : Prop := p
theorem byD {p : Prop} (h : p) : ByD p := h
def ByE (p : Prop) : Prop := p
theorem ce {p : Prop} (hn : 0 = 0) (hy : p) : ByE p := hy

/-- An operation whose guard is known. -/
def GdW (P : Program) (cx : Cx) (ops : Array Oper) (draw : Bool) (n0 : Nat) (o : Oper) (rest : List Oper) (i : Nat) (env : Env) (box : Boxes) (u : List Nat) (acc : List (List Nat × List Nat)) (K : Env → Boxes → Prop) (jj : Nat) (want : Bool) (d : Tmp) (g : Bool) : Prop :=
  dstOf ops jj = some d → guardOf env want d = some g → regW P cx ops draw n0 (o :: rest) i env box u acc K

theorem rs_gd {op : Op} {jj : Nat} {want : Bool} (hd : dstOf ops jj = some d) (hy : guardOf env want d = some g) (h : GdW P cx ops draw n0 { dst := dst, op := op, type := ty, pos := pos, after := after, guard := some (jj, want) } rest i env box u acc K jj want d g) :
    regW P cx ops draw n0 ({ dst := dst, op := op, type := ty, pos := pos, after := after, guard := some (jj, want) } :: rest) i env box u acc K := h hd hy
theorem gd_f {jj : Nat} {want : Bool} (hi : i + 1 = j) (h : regW P cx ops draw n0 rest j (econs dst (.iff false .any) env) box u (([], []) :: acc) K) :
    GdW P cx ops draw n0 { dst := dst, op := op, type := ty, pos := pos, after := after, guard := some (jj, want) } rest i env box u acc K jj want d false := fun hd hy => rs_gf hd hy hi h
theorem gd_c {jj : Nat} {want : Bool} {y : Operand} {args : Array Operand} {ats : Array TypeId} {f : FuncId} {l : List AV} (hn : n0 + 8 * i = nm) (hy : callR env ⟨.value y, args, ats⟩ = some (f, l))
    (hK : CallW P cx (g = true) env box nm f l { dst := dst, op := .call ⟨.value y, args, ats⟩, type := ty, pos := pos, after := after, guard := some (jj, want) } (regG P cx ops draw n0 rest i env box u acc K g dst)) (hc : ByE (cndsOK (g = true) env (callOps ⟨.value y, args, ats⟩))) :
    GdW P cx ops draw n0 { dst := dst, op := .call ⟨.value y, args, ats⟩, type := ty, pos := pos, after := after, guard := some (jj, want) } rest i env box u acc K jj want d g := fun hd hg => rs_callg hd hg hy hn hK hc
theorem gd_u {jj : Nat} {want : Bool} (hn : n0 + 8 * i = nm) (hy : opR P (g = true) env box nm op = some (S, c)) (hK : regG P cx ops draw n0 rest i env box u acc K g dst S) (hc : c) :
    GdW P cx ops draw n0 { dst := dst, op := op, type := ty, pos := pos, after := after, guard := some (jj, want) } rest i env box u acc K jj want d g := fun hd hg => rs_g hd hg hn hy hK hc
theorem rs_c {y : Operand} {args : Array Operand} {ats : Array TypeId} {f : FuncId} {l : List AV} (hn : n0 + 8 * i = nm) (hy : callR env ⟨.value y, args, ats⟩ = some (f, l))
    (hK : CallW P cx True env box nm f l { dst := dst, op := .call ⟨.value y, args, ats⟩, type := ty, pos := pos, after := after, guard := none } (regK P cx ops draw n0 rest i env box u acc K dst)) (hc : ByE (cndsOK True env (callOps ⟨.value y, args, ats⟩))) :
    regW P cx ops draw n0 ({ dst := dst, op := .call ⟨.value y, args, ats⟩, type := ty, pos := pos, after := after, guard := none } :: rest) i env box u acc K := rs_call hy hn hK hc
theorem rs_o (hn : n0 + 8 * i = nm) (hy : opR P True env box nm op = some (S, c)) (hK : regK P cx ops draw n0 rest i env box u acc K dst S) (hc : c) :
    regW P cx ops draw n0 ({ dst := dst, op := op, type := ty, pos := pos, after := after, guard := none } :: rest) i env box u acc K := rs_u hn hy hK hc

/-- A condition whose value is known. -/
def CndW (P : Program) (cx : Cx) (a b : Code) (Q : Exit → LS → Prop) (env : Env) (box : Boxes) (n : Nat) (x : AV) : Prop := ∀ y, oeval env y = x → W P cx (.cond y a b) Q ⟨env, box, n⟩
theorem w_c {y : Operand} (hy : oeval env y = x) (h : CndW P cx a b Q env box n x) : W P cx (.cond y a b) Q ⟨env, box, n⟩ := h y hy
theorem cw_t (h : W P cx a Q ⟨env, box, n⟩) : CndW P cx a b Q env box n (.v (.bool true)) := fun _ hy => w_if hy h
theorem cw_f (h : W P cx b Q ⟨env, box, n⟩) : CndW P cx a b Q env box n (.v (.bool false)) := fun _ hy => w_else hy h
theorem cw_c {t : Bool} (h1 : t = true → W P cx a Q ⟨env, box, n⟩) (h2 : t = false → W P cx b Q ⟨env, box, n⟩) : CndW P cx a b Q env box n (.v (.bool t)) := fun _ hy => w_cond hy h1 h2
theorem cw_b {p : Prop} (h1 : p → W P cx a Q ⟨env, box, n⟩) (h2 : W P cx b Q ⟨env, box, n⟩) : CndW P cx a b Q env box n (.bit p) := fun _ hy => w_bit hy h1 h2

theorem callX {hyp : Prop} {f : FuncId} {l xs : List AV} {o : Oper} {K : OpS → Prop} (hc : Callable P f) (hF : Fun P f xs x) (hl : l = xs) (hd : ByD (xs.all AV.isData = true)) (hK : K ⟨[], x, []⟩) : CallW P cx hyp env box nm f l o K := callWe hc hF hl hd hK
theorem callFX {hyp : Prop} {f : FuncId} {l xs : List AV} {o : Oper} {K : OpS → Prop} {pb : Boxes} {kb : List (Nat × Option Bx)} (ns : List Nat) (hc : Callable P f) (hF : Fun P f xs x) (hy : pickB box ns = pb) (hl : liveOf pb pb = fp) (hk : kills fp = kb)
    (hz : fzl (fz pb 6) l xs) (hK : K ⟨fp, x, kb⟩) : CallW P cx hyp env box nm f l o K := callF' ns hc hF hy hl hk hz hK
end Go.Proofs.Ytkagkiepicepeaa.V
