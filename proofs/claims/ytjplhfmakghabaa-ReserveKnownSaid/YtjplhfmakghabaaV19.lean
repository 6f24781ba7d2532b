/- The steps of a reckoning, each chosen by the form of what stands ahead. -/
import Derived.Test.YtjplhfmakghabaaV18
set_option linter.unusedSimpArgs false
set_option linter.unusedVariables false
namespace Go.Proofs.Ytjplhfmakghabaa.V
open Go.RowKit
variable {P : Program} {cx : Cx} {ops : Array Oper} {draw : Bool} {n0 i j nm m n : Nat} {rest : List Oper} {env : Env} {box : Boxes} {u : List Nat} {acc : List (List Nat × List Nat)} {K : Env → Boxes → Prop} {S : OpS} {c : Prop}
  {op : Op} {ty : TypeId} {pos : String} {after : Array Edge} {dst : Option Tmp} {d : Tmp} {x : AV} {fp : List (Nat × Bx)} {g : Bool} {Q : Exit → LS → Prop} {A : LS} {a b : Code}

def ByD (p : Prop) : Prop := p
theorem byD {p : Prop} (h : p) : ByD p := h
def ByE (p : Prop) : Prop := p
theorem ce {p : Prop} (hn : 0 = 0) (hy : p) : ByE p := hy

/-- An operation whose guard is known. -/
def GdW (P : Program) (cx : Cx) (ops : Array Oper) (draw : Bool) (n0 : Nat) (o : Oper) (rest : List Oper) (i : Nat) (env : Env) (box : Boxes) (u : List Nat) (acc : List (List Nat × List Nat)) (K : Env → Boxes → Prop) (jj : Nat) (want : Bool) (d : Tmp) (g : Bool) : Prop :=
  dstOf ops jj = some d → guardOf env want d = some g → regW P cx ops draw n0 (o :: rest) i env box u acc K

theorem rs_gd {op : Op} {jj : Nat} {want : Bool} (hd : dstOf ops jj = some d) (hy : guardOf env want d = some g) (h : GdW P cx ops draw n0 { dst := dst, op := op, type := ty, pos := pos, after := after, guard := some (jj, want) } rest i env box u acc K jj want d g) :
    regW P cx ops draw n0 ({ dst := dst, op := op, type := ty, pos := pos, after := after, guard := some (jj, want) } :: rest) i env box u acc K := h hd hy
theorem gd_f {jj : Nat} {want : Bool} (hi : i + 1 = j) (h : regW P cx ops draw n0 rest j (econs dst (.iff false (.v (.bool false))) env) box u (([], []) :: acc) K) :
    GdW P cx ops draw n0 { dst := dst, op := op, type := ty, pos := pos, after := after, guard := some (jj, want) } rest i env box u acc K jj want d false := fun hd hy => rs_gf hd hy hi h
theorem gd_c {jj : Nat} {want : Bool} {y : Operand} {args : Array Operand} {ats : Array TypeId} {f : FuncId} {l : List AV} (hn : n0 + 8 * i = nm) (hy : callR env ⟨.value y, args, ats⟩ = some (f, l))
    (hK : CallW P cx (g = true) env box nm f l { dst := dst, op := .call ⟨.value y, args, ats⟩, type := ty, pos := pos, after := after, guard := some (jj, want) } (regG P cx ops draw n0 rest i env box u acc K g dst)) (hc : ByE (cndsOK (g = true) env (callOps ⟨.value y, args, ats⟩))) :
    GdW P cx ops draw n0 { dst := dst, op := .call ⟨.value y, args, ats⟩, type := ty, pos := pos, after := after, guard := some (jj, want) } rest i env box u acc K jj want d g := fun hd hg => rs_callg hd hg hy hn hK hc
theorem gd_u {jj : Nat} {want : Bool} (hn : n0 + 8 * i = nm) (hy : opR P (g = true) env box nm op = some (S, c)) (hK : regG P cx ops draw n0 rest i env box u acc K g dst S) (hc : c) :
    GdW P cx ops draw n0 { dst := dst, op := op, type := ty, pos := pos, after := after, guard := some (jj, want) } rest i env box u acc K jj want d g := fun hd hg => rs_g hd hg hn hy hK hc
theorem rs_c {y : Operand} {args : Array Operand} {ats : Array TypeId} {f : FuncId} {l : List AV} (hn : n0 + 8 * i = nm) (hy : callR env ⟨.value y, args, ats⟩ = some (f, l))
    (hK : CallW P cx True env box nm f l { dst := dst, op := .call ⟨.value y, args, ats⟩, type := ty, pos := pos, after := after, guard := none } (regK P cx ops draw n0 rest i env box u acc K dst)) (hc : ByE (cndsOK True env (callOps ⟨.value y, args, ats⟩))) :
    regW P cx ops draw n0 ({ dst := dst, op := .call ⟨.value y, args, ats⟩, type := ty, pos := pos, after := after, guard := none } :: rest) i env box u acc K := rs_call hy hn hK hc
theorem rs_o (hn : n0 + 8 * i = nm) (hy : opR P True env box nm op = some (S, c)) (hK : regK P cx ops draw n0 rest i env box u acc K dst S) (hc : c) :
    regW P cx ops draw n0 ({ dst := dst, op := op, type := ty, pos := pos, after := after, guard := none } :: rest) i env box u acc K := rs_u hn hy hK hc

/-- A condition whose value is known. -/
def CndW (P : Program) (cx : Cx) (a b : Code) (Q : Exit → LS → Prop) (env : Env) (box : Boxes) (n : Nat) (x : AV) : Prop := ∀ y, oeval env y = x → W P cx (.cond y a b) Q ⟨env, box, n⟩
theorem w_c {y : Operand} (hy : oeval env y = x) (h : CndW P cx a b Q env box n x) : W P cx (.cond y a b) Q ⟨env, box, n⟩ := h y hy
theorem cw_t (h : W P cx a Q ⟨env, box, n⟩) : CndW P cx a b Q env box n (.v (.bool true)) := fun _ hy => w_if hy h
theorem cw_f (h : W P cx b Q ⟨env, box, n⟩) : CndW P cx a b Q env box n (.v (.bool false)) := fun _ hy => w_else hy h
theorem cw_c {t : Bool} (h1 : t = true → W P cx a Q ⟨env, box, n⟩) (h2 : t = false → W P cx b Q ⟨env, box, n⟩) : CndW P cx a b Q env box n (.v (.bool t)) := fun _ hy => w_cond hy h1 h2
theorem cw_b {p : Prop} (h1 : p → W P cx a Q ⟨env, box, n⟩) (h2 : W P cx b Q ⟨env, box, n⟩) : CndW P cx a b Q env box n (.bit p) := fun _ hy => w_bit hy h1 h2

theorem callX {hyp : Prop} {f : FuncId} {l xs : List AV} {o : Oper} {K : OpS → Prop} (hc : Callable P f) (hF : Fun P f xs x) (hl : l = xs) (hd : ByD (xs.all AV.isData = true)) (hK : K ⟨[], x, []⟩) : CallW P cx hyp env box nm f l o K := callWe hc hF hl hd hK
theorem callFX {hyp : Prop} {f : FuncId} {l xs : List AV} {o : Oper} {K : OpS → Prop} {pb : Boxes} {kb : List (Nat × Option Bx)} (ns : List Nat) (hc : Callable P f) (hF : Fun P f xs x) (hy : pickB box ns = pb) (hl : liveOf pb pb = fp) (hk : kills fp = kb)
    (hz : fzl (fz pb 6) l xs) (hK : K ⟨fp, x, kb⟩) : CallW P cx hyp env box nm f l o K := callF' ns hc hF hy hl hk hz hK

/-! ### The same, with marks on what is to be shown beside -/

def ByR (p : Prop) : Prop := p
theorem byKt {b : Bool} (h : b = true) : ByK (b = true) := h
theorem byKs {α : Type} {o : Option α} {y : α} (h : o = some y) : ByK (o = some y) := h
theorem byR {p : Prop} (h : p) : ByR p := h
theorem byE {p : Prop} (h : p) : ByE p := h
def ByL (p : Prop) : Prop := p
theorem byL {p : Prop} (h : p) : ByL p := h
def ByG (p : Prop) : Prop := p
theorem byG {p : Prop} (h : p) : ByG p := h
def ByQ (p : Prop) : Prop := p
theorem byQ {p : Prop} (h : p) : ByQ p := h
def ByI (p : Prop) : Prop := p
theorem byI {p : Prop} (h : p) : ByI p := h
def ByH (p : Prop) : Prop := p
theorem byH {p : Prop} (h : p) : ByH p := h
def ByN (p : Prop) : Prop := p
theorem byN {p : Prop} (h : p) : ByN p := h

/-- What a condition says. -/
theorem hqs : (∀ (p : Prop) [Decidable p], (decide p = true) = p) ∧ (∀ (p : Prop) [Decidable p], (decide p = false) = ¬ p) ∧ (∀ a b : Bool, ((a && b) = true) = (a = true ∧ b = true)) ∧ (∀ a b : Bool, ((a || b) = true) = (a = true ∨ b = true)) ∧ (∀ a b : Bool, ((a && b) = false) = (a = false ∨ b = false)) ∧
    (∀ a b : Bool, ((a || b) = false) = (a = false ∧ b = false)) ∧ (∀ b : Bool, ((!b) = true) = (b = false)) ∧ (∀ b : Bool, ((!b) = false) = (b = true)) ∧ (∀ a b : Int, (¬ a < b) = (b ≤ a)) ∧ (∀ a b : Int, (¬ a ≤ b) = (b < a)) := by
  refine ⟨fun p _ => by simp, fun p _ => by simp, fun a b => by cases a <;> cases b <;> simp, fun a b => by cases a <;> cases b <;> simp, fun a b => by cases a <;> cases b <;> simp, fun a b => by cases a <;> cases b <;> simp, fun b => by simp, fun b => by simp, fun a b => by simp, fun a b => by simp⟩

theorem Aa (h : regW P cx ops draw n0 rest (i + 1) ((d, x) :: env) box u (([], []) :: acc) K) : regK P cx ops draw n0 rest i env box u acc K (some d) ⟨[], x, []⟩   := rk_v rfl h
theorem Ab {b : Nat} {bx : Bx} (h : regW P cx ops draw n0 rest (i + 1) ((d, x) :: env) box u (([b], []) :: acc) K) : regK P cx ops draw n0 rest i env box u acc K (some d) ⟨[(b, bx)], x, []⟩   := rk_r rfl h
theorem Ac (h : regW P cx ops draw n0 rest (i + 1) env box u (([], []) :: acc) K) : regK P cx ops draw n0 rest i env box u acc K none ⟨[], x, []⟩   := rk_vn rfl h
theorem Ad (h : regW P cx ops draw n0 rest (i + 1) ((d, .iff g x) :: env) box u (([], []) :: acc) K) : regG P cx ops draw n0 rest i env box u acc K g (some d) ⟨[], x, []⟩   := rg_v rfl h
theorem Ae {b : Nat} {bx : Bx} (h : regW P cx ops draw n0 rest (i + 1) ((d, .iff g x) :: env) box u (([b], []) :: acc) K) : regG P cx ops draw n0 rest i env box u acc K g (some d) ⟨[(b, bx)], x, []⟩   := rg_r rfl h
theorem Af {b b' : Nat} {r : Option Bx} {bx : Bx} (hb : ByK (Nat.blt b (n0 + 8 * i + 8) = true)) (h : regW P cx ops draw n0 rest (i + 1) env ((b, r) :: box) (b :: u) (([b'], [b]) :: acc) K) : regK P cx ops draw n0 rest i env box u acc K none ⟨[(b', bx)], x, [(b, r)]⟩   := rk_s rfl hb h
theorem Ag {b : Nat} {r : Option Bx} (hb : ByK (Nat.blt b (n0 + 8 * i + 8) = true)) (h : regW P cx ops draw n0 rest (i + 1) ((d, x) :: env) ((b, r) :: box) (b :: u) (([], [b]) :: acc) K) : regK P cx ops draw n0 rest i env box u acc K (some d) ⟨[], x, [(b, r)]⟩   := rk_n rfl hb h
theorem Ah {b b' b0 : Nat} {r r' : Option Bx} {bx : Bx} (hb : ByK ((Nat.blt b (n0 + 8 * i + 8) && Nat.blt b' (n0 + 8 * i + 8)) = true)) (h : regW P cx ops draw n0 rest (i + 1) ((d, x) :: env) ((b, r) :: (b', r') :: box) (b :: b' :: u) (([b0], [b, b']) :: acc) K) :
    regK P cx ops draw n0 rest i env box u acc K (some d) ⟨[(b0, bx)], x, [(b, r), (b', r')]⟩   := rk_a rfl hb h
theorem Ai {b b' : Nat} {r : Option Bx} {bx : Bx} (hb : ByK (Nat.blt b (n0 + 8 * i + 8) = true)) (h : regW P cx ops draw n0 rest (i + 1) ((d, x) :: env) ((b, r) :: box) (b :: u) (([b'], [b]) :: acc) K) : regK P cx ops draw n0 rest i env box u acc K (some d) ⟨[(b', bx)], x, [(b, r)]⟩   := rk_rn rfl hb h
theorem Aj {jj : Nat} {want : Bool} (h : regW P cx ops draw n0 rest (i + 1) (econs dst (.iff false (.v (.bool false))) env) box u (([], []) :: acc) K) :
    GdW P cx ops draw n0 { dst := dst, op := op, type := ty, pos := pos, after := after, guard := some (jj, want) } rest i env box u acc K jj want d false   := gd_f rfl h
theorem Ak {b : Nat} {y : Bx} (hb : ByK (Nat.blt b (n0 + 8 * i + 8) = true)) (ht : ByG (g = true → regW P cx ops draw n0 rest (i + 1) ((d, x) :: env) ((b, some y) :: box) (b :: u) (([], [b]) :: acc) K)) (hf : ByG (g = false → regW P cx ops draw n0 rest (i + 1) ((d, .iff false x) :: env) box u (([], []) :: acc) K)) :
    regG P cx ops draw n0 rest i env box u acc K g (some d) ⟨[], x, [(b, some y)]⟩   := rg_n rfl hb ht hf
theorem Al {b b' : Nat} {bx y : Bx} (hb : ByK (Nat.blt b (n0 + 8 * i + 8) = true)) (ht : ByG (g = true → regW P cx ops draw n0 rest (i + 1) env ((b, some y) :: box) (b :: u) (([b'], [b]) :: acc) K)) (hf : ByG (g = false → regW P cx ops draw n0 rest (i + 1) env box u (([b'], []) :: acc) K)) :
    regG P cx ops draw n0 rest i env box u acc K g none ⟨[(b', bx)], x, [(b, some y)]⟩   := rg_s rfl hb ht hf
theorem Am {tb : List (Nat × Option Bx)} {env' : Env} {box' : Boxes} {u' : List Nat} {a : List Nat × List Nat} (hb : ByK ((tb.all (fun p => Nat.blt p.1 (n0 + 8 * i + 8))) = true)) (h1 : ByL (econs dst x env = env')) (h2 : ByL (tb ++ box = box')) (h3 : ByL (tb.map (·.1) ++ u = u')) (h4 : ByL ((OpS.mk fp x tb).nm = a)) (h : regW P cx ops draw n0 rest (i + 1) env' box' u' (a :: acc) K) :
    regK P cx ops draw n0 rest i env box u acc K dst ⟨fp, x, tb⟩   := rk_all rfl hb h1 h2 h3 h4 h
theorem An {tb : List (Nat × Option Bx)} {env' : Env} {box' : Boxes} {u' : List Nat} {a : List Nat × List Nat} (hb : ByK ((tb.all (fun p => Nat.blt p.1 (n0 + 8 * i + 8))) = true)) (hs : tb.all (fun p => p.2.isNone) = true) (h1 : ByL (econs dst (.iff g x) env = env')) (h2 : ByL (tb ++ box = box')) (h3 : ByL (tb.map (·.1) ++ u = u')) (h4 : ByL ((OpS.mk fp x tb).nm = a))
    (h : regW P cx ops draw n0 rest (i + 1) env' box' u' (a :: acc) K) : regG P cx ops draw n0 rest i env box u acc K g dst ⟨fp, x, tb⟩   := rg_k rfl hb hs h1 h2 h3 h4 h
theorem Ao {tb : List (Nat × Option Bx)} {env' : Env} {box' : Boxes} {u' : List Nat} {a r : List Nat × List Nat} (hb : ByK ((tb.all (fun p => Nat.blt p.1 (n0 + 8 * i + 8))) = true)) (hs : tb.all (fun p => p.2.isNone) = false) (h1 : ByL (econs dst x env = env')) (h2 : ByL (tb ++ box = box')) (h3 : ByL (tb.map (·.1) ++ u = u')) (h4 : ByL ((OpS.mk fp x tb).nm = a)) (h5 : ByL (((OpS.mk fp x tb).reads, ([] : List Nat)) = r))
    (ht : ByG (g = true → regW P cx ops draw n0 rest (i + 1) env' box' u' (a :: acc) K)) (hf : ByG (g = false → regW P cx ops draw n0 rest (i + 1) (econs dst (.iff false x) env) box u (r :: acc) K)) :
    regG P cx ops draw n0 rest i env box u acc K g dst ⟨fp, x, tb⟩   := rg_w rfl hb hs h1 h2 h3 h4 h5 ht hf
theorem Ap (h : ByN (NapOK ops acc)) (hK : K env box) : regW P cx ops true n0 [] i env box u acc K := rs_nil h hK
theorem Aq {p q : Prop} (h : ByK p) (h2 : q) : ByK p ∧ q := ⟨h, h2⟩
theorem Ar {p q : Prop} (h : ByK p) (h2 : q) : q ∧ ByK p := ⟨h2, h⟩
theorem As {y : Operand} {args : Array Operand} {ats : Array TypeId} {f : FuncId} {l : List AV} (hy : ByE (callR env ⟨.value y, args, ats⟩ = some (f, l)))
    (hK : CallW P cx True env box (n0 + 8 * i) f l { dst := dst, op := .call ⟨.value y, args, ats⟩, type := ty, pos := pos, after := after, guard := none } (regK P cx ops draw n0 rest i env box u acc K dst)) (hc : ByE (cndsOK True env (callOps ⟨.value y, args, ats⟩))) :
    regW P cx ops draw n0 ({ dst := dst, op := .call ⟨.value y, args, ats⟩, type := ty, pos := pos, after := after, guard := none } :: rest) i env box u acc K := rs_c rfl hy hK hc
theorem At {jj : Nat} {want : Bool} {y : Operand} {args : Array Operand} {ats : Array TypeId} {f : FuncId} {l : List AV} (hy : ByE (callR env ⟨.value y, args, ats⟩ = some (f, l)))
    (hK : CallW P cx (g = true) env box (n0 + 8 * i) f l { dst := dst, op := .call ⟨.value y, args, ats⟩, type := ty, pos := pos, after := after, guard := some (jj, want) } (regG P cx ops draw n0 rest i env box u acc K g dst)) (hc : ByE (cndsOK (g = true) env (callOps ⟨.value y, args, ats⟩))) :
    GdW P cx ops draw n0 { dst := dst, op := .call ⟨.value y, args, ats⟩, type := ty, pos := pos, after := after, guard := some (jj, want) } rest i env box u acc K jj want d g := gd_c rfl hy hK hc
theorem Au (hy : ByE (opR P True env box (n0 + 8 * i) op = some (S, c))) (hK : regK P cx ops draw n0 rest i env box u acc K dst S) (hc : c) :
    regW P cx ops draw n0 ({ dst := dst, op := op, type := ty, pos := pos, after := after, guard := none } :: rest) i env box u acc K := rs_o rfl hy hK hc
theorem Av {op : Op} {jj : Nat} {want : Bool} (hd : ByH (dstOf ops jj = some d)) (hy : ByE (guardOf env want d = some g)) (h : GdW P cx ops draw n0 { dst := dst, op := op, type := ty, pos := pos, after := after, guard := some (jj, want) } rest i env box u acc K jj want d g) :
    regW P cx ops draw n0 ({ dst := dst, op := op, type := ty, pos := pos, after := after, guard := some (jj, want) } :: rest) i env box u acc K := rs_gd hd hy h
theorem Aw {jj : Nat} {want : Bool} (hy : ByE (opR P (g = true) env box (n0 + 8 * i) op = some (S, c))) (hK : regG P cx ops draw n0 rest i env box u acc K g dst S) (hc : c) :
    GdW P cx ops draw n0 { dst := dst, op := op, type := ty, pos := pos, after := after, guard := some (jj, want) } rest i env box u acc K jj want d g := gd_u rfl hy hK hc
theorem Ax {y : Operand} (hy : ByE (oeval env y = x)) (h : CndW P cx a b Q env box n x) : W P cx (.cond y a b) Q ⟨env, box, n⟩ := w_c hy h
theorem Ay {l : List Oper} {id : Nat} (hm : ByL (n + 1000 = m)) (hs : ByK (Nat.ble (8 * l.length) 1000 = true)) (h : ByI (∀ K : Env → Boxes → Prop, (∀ env box, Q .normal ⟨env, box, m⟩ → K env box) → regW P cx l.toArray draw n l 0 env box [] [] K)) : W P cx (.region id l.toArray draw) Q ⟨env, box, n⟩ := w_region hm hs h
theorem Az {t : Bool} (h1 : ByQ (t = true → W P cx a Q ⟨env, box, n⟩)) (h2 : ByQ (t = false → W P cx b Q ⟨env, box, n⟩)) : CndW P cx a b Q env box n (.v (.bool t)) := cw_c h1 h2
theorem Ba {p : Prop} (h1 : ByQ (p → W P cx a Q ⟨env, box, n⟩)) (h2 : W P cx b Q ⟨env, box, n⟩) : CndW P cx a b Q env box n (.bit p) := cw_b h1 h2
theorem Bb {rs : Array ResultVar} {l : List ResultVar} (hr : ByR (rs = l.toArray)) (h : ByE (LEndsL P l x A)) : LEnds P rs x .ret A := ends_r hr h
theorem Bc {rs : Array ResultVar} {l : List ResultVar} (hr : ByR (rs = l.toArray)) (h : ByE (LEndsL P l x A)) : LEnds P rs x .normal A := ends_n hr h
theorem Bd {rs : Array ResultVar} {fp : List (Nat × Bx)} {tb : List (Nat × Option Bx)} {l : List ResultVar} (hr : ByR (rs = l.toArray)) (h : ByE (LEndsBL P l fp x tb A)) : LEndsB P rs fp x tb .ret A := endsB_r hr h
theorem Be {rs : Array ResultVar} {fp : List (Nat × Bx)} {tb : List (Nat × Option Bx)} {l : List ResultVar} (hr : ByR (rs = l.toArray)) (h : ByE (LEndsBL P l fp x tb A)) : LEndsB P rs fp x tb .normal A := endsB_n hr h
theorem Bf {id id' : Nat} (hne : ByR (Nat.beq id' id = false)) (h : Q (.exit id') A) : linBlock id Q (.exit id') A := lb_m hne h
section
variable {id l : Nat} {next : LS → Prop}
theorem Ca (h : W P cx a Q ⟨env, box, n⟩) : CndW P cx a b Q env box n (.v (.bool true)) := cw_t h
theorem Cb (h : W P cx b Q ⟨env, box, n⟩) : CndW P cx a b Q env box n (.v (.bool false)) := cw_f h
theorem Cc (hK : K env box) : regW P cx ops false n0 [] i env box u acc K := rs_nil_f hK
theorem Cd (h : next A) : lthen next Q .normal A := h
theorem Ce (h : Q .ret A) : lthen next Q .ret A := h
theorem Cf (h : Q (.exit id) A) : lthen next Q (.exit id) A := h
theorem Cg (h : Q .normal A) : linBlock id Q .normal A := h
theorem Ch (h : Q .ret A) : linBlock id Q .ret A := h
theorem Ci (h : Q .normal A) : linBlock id Q (.exit id) A := lb_e h
theorem Cj (h : Q .normal A) : W P cx .skip Q A := h
theorem Ck (h : Q .normal A) : W P cx (.label l) Q A := h
theorem Cl (h : Q .ret A) : W P cx .ret Q A := h
theorem Cm (h : Q (.exit id) A) : W P cx (.exit id) Q A := h
theorem Cn (h : W P cx a (lthen (fun A => W P cx b Q A) Q) A) : W P cx (.seq a b) Q A := h
theorem Co (h : W P cx a (linBlock id Q) A) : W P cx (.block id a) Q A := h
theorem Cp (h : LoopW P cx a Q A) : W P cx (.loop a) Q A := h
end
attribute [go_sem] List.getD_cons_zero List.getD_cons_succ
end Go.Proofs.Ytjplhfmakghabaa.V
