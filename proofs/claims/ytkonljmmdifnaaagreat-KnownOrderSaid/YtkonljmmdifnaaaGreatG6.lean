/- The steps of a reckoning. The rules, for simp. A call of an interface value's method. The steps of a reckoning, each chosen by the form of what stands ahead. Loops that append: a nil slice is an empty slice of the call's own. What is known between two steps of the code: own memory that nobody writes any more is plain data. The reckoning as one lemma: its tactic is told once, and what is left to be shown is handed back as one statement. The things of this program as plain data. '==' at structs of ints. Rows of cells; lists. Pieces of code: rules at CodeW. -/
import Derived.Test.YtkonljmmdifnaaaGreatG5
import Derived.LoopNIn
set_option linter.unusedSimpArgs false
set_option linter.unusedVariables false
namespace Go.Proofs.YtkonljmmdifnaaaGreat.V
theorem byKl {p q : Prop} (h : p) (h2 : q) : ByK p ∧ q := ⟨h, h2⟩
theorem byKr {p q : Prop} (h : p) (h2 : q) : q ∧ ByK p := ⟨h2, h⟩
open Go.RowKit

section
variable {P : Program} {cx : Cx} {ops : Array Oper} {draw : Bool} {n0 i j nm m : Nat} {rest : List Oper} {env : Env} {box : Boxes} {u : List Nat} {acc : List (List Nat × List Nat)} {K : Env → Boxes → Prop} {S : OpS} {c : Prop}
  {op : Op} {ty : TypeId} {pos : String} {after : Array Edge} {dst : Option Tmp} {d : Tmp} {x : AV} {fp : List (Nat × Bx)} {g : Bool}

/-! ### Operations -/

theorem rs_nil (h : NapOK ops acc) (hK : K env box) : regW P cx ops true n0 [] i env box u acc K := ⟨fun _ => h, hK⟩
theorem rs_nil_f (hK : K env box) : regW P cx ops false n0 [] i env box u acc K := ⟨(fun h => by cases h), hK⟩

theorem rs_u (hn : n0 + 8 * i = nm) (hS : opR P True env box nm op = some (S, c)) (hK : regK P cx ops draw n0 rest i env box u acc K dst S) (hc : c) :
    regW P cx ops draw n0 ({ dst := dst, op := op, type := ty, pos := pos, after := after, guard := none } :: rest) i env box u acc K := by
  subst hn
  exact opR_ok (cx := cx) (o := { dst := dst, op := op, type := ty, pos := pos, after := after, guard := none }) hS hc hK

theorem rs_g {jj : Nat} {want : Bool} (hd : dstOf ops jj = some d) (hg : guardOf env want d = some g) (hn : n0 + 8 * i = nm) (hS : opR P (g = true) env box nm op = some (S, c)) (hK : regG P cx ops draw n0 rest i env box u acc K g dst S) (hc : c) :
    regW P cx ops draw n0 ({ dst := dst, op := op, type := ty, pos := pos, after := after, guard := some (jj, want) } :: rest) i env box u acc K := by
  subst hn
  unfold regW
  simp only [hd, hg]
  exact .inr (opR_ok (cx := cx) (o := { dst := dst, op := op, type := ty, pos := pos, after := after, guard := some (jj, want) }) hS hc hK)

theorem rs_gf {jj : Nat} {want : Bool} (hd : dstOf ops jj = some d) (hg : guardOf env want d = some false) (hi : i + 1 = j) (hK : regW P cx ops draw n0 rest j (econs dst (.iff false (.v (.bool false))) env) box u (([], []) :: acc) K) :
    regW P cx ops draw n0 ({ dst := dst, op := op, type := ty, pos := pos, after := after, guard := some (jj, want) } :: rest) i env box u acc K := by
  subst hi
  unfold regW
  simp only [hd, hg]
  refine .inl ⟨?_, hK⟩
  first | trivial | rfl

theorem dst_z {o : Oper} {l : List Oper} (h : o.dst = some d) : dstOf (o :: l).toArray 0 = some d := by simp [dstOf, h]
theorem dst_s {o : Oper} {l : List Oper} {k : Nat} (h : dstOf l.toArray k = some d) : dstOf (o :: l).toArray (k + 1) = some d := by simpa [dstOf] using h

theorem rk_v (hi : i + 1 = j) (h : regW P cx ops draw n0 rest j ((d, x) :: env) box u (([], []) :: acc) K) : regK P cx ops draw n0 rest i env box u acc K (some d) ⟨[], x, []⟩ := by
  subst hi; exact ⟨by simp, h⟩
theorem rk_vn (hi : i + 1 = j) (h : regW P cx ops draw n0 rest j env box u (([], []) :: acc) K) : regK P cx ops draw n0 rest i env box u acc K none ⟨[], x, []⟩ := by
  subst hi; exact ⟨by simp, h⟩
theorem rk_r {b : Nat} {bx : Bx} (hi : i + 1 = j) (h : regW P cx ops draw n0 rest j ((d, x) :: env) box u (([b], []) :: acc) K) : regK P cx ops draw n0 rest i env box u acc K (some d) ⟨[(b, bx)], x, []⟩ := by
  subst hi; exact ⟨by simp, h⟩
theorem rk_n {b : Nat} {r : Option Bx} (hi : i + 1 = j) (hb : Nat.blt b (n0 + 8 * i + 8) = true) (h : regW P cx ops draw n0 rest j ((d, x) :: env) ((b, r) :: box) (b :: u) (([], [b]) :: acc) K) : regK P cx ops draw n0 rest i env box u acc K (some d) ⟨[], x, [(b, r)]⟩ := by
  subst hi; exact ⟨by simpa [Nat.blt_eq] using hb, h⟩
theorem rk_s {b b' : Nat} {r : Option Bx} {bx : Bx} (hi : i + 1 = j) (hb : Nat.blt b (n0 + 8 * i + 8) = true) (h : regW P cx ops draw n0 rest j env ((b, r) :: box) (b :: u) (([b'], [b]) :: acc) K) : regK P cx ops draw n0 rest i env box u acc K none ⟨[(b', bx)], x, [(b, r)]⟩ := by
  subst hi; exact ⟨by simpa [Nat.blt_eq] using hb, h⟩
theorem rk_a {b b' b0 : Nat} {r r' : Option Bx} {bx : Bx} (hi : i + 1 = j) (hb : (Nat.blt b (n0 + 8 * i + 8) && Nat.blt b' (n0 + 8 * i + 8)) = true) (h : regW P cx ops draw n0 rest j ((d, x) :: env) ((b, r) :: (b', r') :: box) (b :: b' :: u) (([b0], [b, b']) :: acc) K) :
    regK P cx ops draw n0 rest i env box u acc K (some d) ⟨[(b0, bx)], x, [(b, r), (b', r')]⟩ := by
  subst hi; exact ⟨by simpa [Nat.blt_eq] using hb, h⟩
theorem rk_a2 {b b' b0 b1 : Nat} {r r' : Option Bx} {bx bx' : Bx} (hi : i + 1 = j) (hb : (Nat.blt b (n0 + 8 * i + 8) && Nat.blt b' (n0 + 8 * i + 8)) = true) (h : regW P cx ops draw n0 rest j ((d, x) :: env) ((b, r) :: (b', r') :: box) (b :: b' :: u) (([b0, b1], [b, b']) :: acc) K) :
    regK P cx ops draw n0 rest i env box u acc K (some d) ⟨[(b0, bx), (b1, bx')], x, [(b, r), (b', r')]⟩ := by
  subst hi; exact ⟨by simpa [Nat.blt_eq] using hb, h⟩
theorem rk_rn {b b' : Nat} {r : Option Bx} {bx : Bx} (hi : i + 1 = j) (hb : Nat.blt b (n0 + 8 * i + 8) = true) (h : regW P cx ops draw n0 rest j ((d, x) :: env) ((b, r) :: box) (b :: u) (([b'], [b]) :: acc) K) : regK P cx ops draw n0 rest i env box u acc K (some d) ⟨[(b', bx)], x, [(b, r)]⟩ := by
  subst hi; exact ⟨by simpa [Nat.blt_eq] using hb, h⟩
/-- In general. -/
theorem rk_all {tb : List (Nat × Option Bx)} {env' : Env} {box' : Boxes} {u' : List Nat} {a : List Nat × List Nat} (hi : i + 1 = j) (hb : (tb.all (fun p => Nat.blt p.1 (n0 + 8 * i + 8))) = true) (h1 : econs dst x env = env') (h2 : tb ++ box = box') (h3 : tb.map (·.1) ++ u = u') (h4 : (OpS.mk fp x tb).nm = a) (h : regW P cx ops draw n0 rest j env' box' u' (a :: acc) K) :
    regK P cx ops draw n0 rest i env box u acc K dst ⟨fp, x, tb⟩ := by
  subst hi h1 h2 h3 h4
  refine ⟨?_, h⟩
  simpa [Nat.blt_eq] using hb

theorem rg_v (hi : i + 1 = j) (h : regW P cx ops draw n0 rest j ((d, .iff g x) :: env) box u (([], []) :: acc) K) : regG P cx ops draw n0 rest i env box u acc K g (some d) ⟨[], x, []⟩ := by
  subst hi; exact ⟨by simp, h⟩
theorem rg_r {b : Nat} {bx : Bx} (hi : i + 1 = j) (h : regW P cx ops draw n0 rest j ((d, .iff g x) :: env) box u (([b], []) :: acc) K) : regG P cx ops draw n0 rest i env box u acc K g (some d) ⟨[(b, bx)], x, []⟩ := by
  subst hi; exact ⟨by simp, h⟩
theorem rg_n {b : Nat} {y : Bx} (hi : i + 1 = j) (hb : Nat.blt b (n0 + 8 * i + 8) = true) (ht : g = true → regW P cx ops draw n0 rest j ((d, x) :: env) ((b, some y) :: box) (b :: u) (([], [b]) :: acc) K) (hf : g = false → regW P cx ops draw n0 rest j ((d, .iff false x) :: env) box u (([], []) :: acc) K) :
    regG P cx ops draw n0 rest i env box u acc K g (some d) ⟨[], x, [(b, some y)]⟩ := by
  subst hi
  refine ⟨by simpa [Nat.blt_eq] using hb, ?_⟩
  simp only [List.all_cons, List.all_nil, Option.isNone_some, Bool.false_and]
  exact ⟨ht, hf⟩
theorem rg_s {b b' : Nat} {bx y : Bx} (hi : i + 1 = j) (hb : Nat.blt b (n0 + 8 * i + 8) = true) (ht : g = true → regW P cx ops draw n0 rest j env ((b, some y) :: box) (b :: u) (([b'], [b]) :: acc) K) (hf : g = false → regW P cx ops draw n0 rest j env box u (([b'], []) :: acc) K) :
    regG P cx ops draw n0 rest i env box u acc K g none ⟨[(b', bx)], x, [(b, some y)]⟩ := by
  subst hi
  refine ⟨by simpa [Nat.blt_eq] using hb, ?_⟩
  simp only [List.all_cons, List.all_nil, Option.isNone_some, Bool.false_and]
  exact ⟨ht, hf⟩
/-- Where it makes or writes a box: two ways. -/
theorem rg_w {tb : List (Nat × Option Bx)} {env' : Env} {box' : Boxes} {u' : List Nat} {a r : List Nat × List Nat} (hi : i + 1 = j) (hb : (tb.all (fun p => Nat.blt p.1 (n0 + 8 * i + 8))) = true) (hs : tb.all (fun p => p.2.isNone) = false) (h1 : econs dst x env = env') (h2 : tb ++ box = box') (h3 : tb.map (·.1) ++ u = u') (h4 : (OpS.mk fp x tb).nm = a) (h5 : ((OpS.mk fp x tb).reads, ([] : List Nat)) = r)
    (ht : g = true → regW P cx ops draw n0 rest j env' box' u' (a :: acc) K) (hf : g = false → regW P cx ops draw n0 rest j (econs dst (.iff false x) env) box u (r :: acc) K) :
    regG P cx ops draw n0 rest i env box u acc K g dst ⟨fp, x, tb⟩ := by
  subst hi h1 h2 h3 h4 h5
  refine ⟨by simpa [Nat.blt_eq] using hb, ?_⟩
  simp only [hs]
  exact ⟨ht, hf⟩
/-- Where it gives up boxes. -/
theorem rg_k {tb : List (Nat × Option Bx)} {env' : Env} {box' : Boxes} {u' : List Nat} {a : List Nat × List Nat} (hi : i + 1 = j) (hb : (tb.all (fun p => Nat.blt p.1 (n0 + 8 * i + 8))) = true) (hs : tb.all (fun p => p.2.isNone) = true) (h1 : econs dst (.iff g x) env = env') (h2 : tb ++ box = box') (h3 : tb.map (·.1) ++ u = u') (h4 : (OpS.mk fp x tb).nm = a)
    (h : regW P cx ops draw n0 rest j env' box' u' (a :: acc) K) : regG P cx ops draw n0 rest i env box u acc K g dst ⟨fp, x, tb⟩ := by
  subst hi h1 h2 h3 h4
  refine ⟨by simpa [Nat.blt_eq] using hb, ?_⟩
  simp only [hs]
  exact h

/-! ### Calls -/

def callR (env : Env) (c : Call) : Option (FuncId × List AV) :=
  match c.callee with
  | .value (.func f) => some (f, sevs env c.args.toList)
  | .value y => match seval env y with
    | .fn (.func f) first caps => some (f, first ++ (sevs env c.args.toList ++ caps))
    | .v (.func (.func f) ⟨[]⟩ ⟨[]⟩) => some (f, sevs env c.args.toList)
    | _ => none
  | _ => none

theorem callR_ok {hyp : Prop} {o : Oper} {cl : Call} {f : FuncId} {l : List AV} {K : OpS → Prop} (ho : o.op = .call cl) (h : callR env cl = some (f, l)) (hc : cndsOK hyp env cl.operands.toList) (hK : CallW P cx hyp env box nm f l o K) : opW P cx hyp env box nm o K := by
  unfold opW
  rw [ho]
  refine ⟨cnds_ops hc, ?_⟩
  unfold restW
  simp only [ho]
  unfold callR at h
  unfold callOpW
  rw [sevs_eq] at h
  split at h
  · rename_i f' e1
    injection h with h; injection h with h1 h2; subst h1 h2
    simp only [e1]
    exact hK
  · rename_i y hne e1
    split at h
    · rename_i f' first caps e2
      injection h with h; injection h with h1 h2; subst h1 h2
      simp only [e1, e2]
      have := hK
      rw [← List.append_assoc] at this
      exact this
    · rename_i f' e2
      injection h with h; injection h with h1 h2; subst h1 h2
      simp only [e1, e2]
      exact hK
    · cases h
  · cases h

def callOps (cl : Call) : List Operand := match cl.callee with | .value f => f :: cl.args.toList | .invoke r _ => r :: cl.args.toList | .builtin _ => cl.args.toList
theorem callOps_eq (cl : Call) : cl.operands.toList = callOps cl := by
  unfold Call.operands callOps
  split <;> simp_all

theorem rs_call {cl : Call} {f : FuncId} {l : List AV} (hS : callR env cl = some (f, l)) (hn : n0 + 8 * i = nm) (hK : CallW P cx True env box nm f l { dst := dst, op := .call cl, type := ty, pos := pos, after := after, guard := none } (regK P cx ops draw n0 rest i env box u acc K dst)) (hc : cndsOK True env (callOps cl)) :
    regW P cx ops draw n0 ({ dst := dst, op := .call cl, type := ty, pos := pos, after := after, guard := none } :: rest) i env box u acc K := by
  subst hn
  rw [← callOps_eq] at hc
  exact callR_ok (cx := cx) (o := { dst := dst, op := .call cl, type := ty, pos := pos, after := after, guard := none }) rfl hS hc hK

theorem rs_callg {jj : Nat} {want : Bool} {cl : Call} {f : FuncId} {l : List AV} (hd : dstOf ops jj = some d) (hg : guardOf env want d = some g) (hS : callR env cl = some (f, l)) (hn : n0 + 8 * i = nm) (hK : CallW P cx (g = true) env box nm f l { dst := dst, op := .call cl, type := ty, pos := pos, after := after, guard := some (jj, want) } (regG P cx ops draw n0 rest i env box u acc K g dst)) (hc : cndsOK (g = true) env (callOps cl)) :
    regW P cx ops draw n0 ({ dst := dst, op := .call cl, type := ty, pos := pos, after := after, guard := some (jj, want) } :: rest) i env box u acc K := by
  subst hn
  rw [← callOps_eq] at hc
  unfold regW
  simp only [hd, hg]
  exact .inr (callR_ok (cx := cx) (o := { dst := dst, op := .call cl, type := ty, pos := pos, after := after, guard := some (jj, want) }) rfl hS hc hK)

theorem callWe {hyp : Prop} {f : FuncId} {l xs : List AV} {o : Oper} {K : OpS → Prop} (hc : Callable P f) (hF : Fun P f xs x) (hl : l = xs) (hd : xs.all AV.isData = true) (hK : K ⟨[], x, []⟩) : CallW P cx hyp env box nm f l o K := by
  subst hl
  exact callW hc hF hd hK
theorem callF' {hyp : Prop} {f : FuncId} {l xs : List AV} {o : Oper} {K : OpS → Prop} {pb : Boxes} {kb : List (Nat × Option Bx)} (ns : List Nat) (hc : Callable P f) (hF : Fun P f xs x) (hp : pickB box ns = pb) (hl : liveOf pb pb = fp) (hk : kills fp = kb)
    (hfz : fzl (fz pb 6) l xs) (hK : K ⟨fp, x, kb⟩) : CallW P cx hyp env box nm f l o K := by
  subst hp hl hk
  exact callF ns hc hF hfz hK
theorem callL' {hyp : Prop} {f : FuncId} {l xs : List AV} {o : Oper} {K : OpS → Prop} {pb : Boxes} (ns : List Nat) (hc : Callable P f) (hF : Fun P f xs x) (hp : pickB box ns = pb) (hl : liveOf pb pb = fp) (hx : x.flat0 = true)
    (hfz : fzl (fz pb 6) l xs) (hK : K ⟨fp, x, []⟩) : CallW P cx hyp env box nm f l o K := by
  subst hp hl
  exact callL ns hc hF hx hfz hK
theorem callB' {hyp : Prop} {f : FuncId} {l args : List AV} {o : Oper} {K : OpS → Prop} {fp fp' : List (Nat × Bx)} {tb tb' : List (Nat × Option Bx)} {x' : AV} (r : List Nat) (hc : Callable P f) (hF : FunB P f fp args x tb)
    (hl : l = args.map (AV.ren (look r))) (hs : (args.all (AV.names (inl fp)) && okF fp && okT fp tb && x.names (fun b => inl fp b || inl tb b) && injN (look r) (nmsF fp ++ nmsT tb)) = true) (h1 : renF (look r) fp = fp') (h2 : renT (look r) tb = tb') (h3 : x.ren (look r) = x') (hfp : boxesOK box fp') (hfr : freshOK nm fp' tb')
    (hK : K ⟨fp', x', tb'⟩) : CallW P cx hyp env box nm f l o K := by
  subst h1 h2 h3
  exact callBW r hc hF hl hs hfp hfr hK

/-! ### Code -/

variable {Q : Exit → LS → Prop} {A : LS} {next : LS → Prop} {id id' n : Nat} {a b : Code}

theorem w_skip (h : Q .normal A) : W P cx .skip Q A := h
theorem w_label {l : Nat} (h : Q .normal A) : W P cx (.label l) Q A := h
theorem w_ret (h : Q .ret A) : W P cx .ret Q A := h
theorem w_exit (h : Q (.exit id) A) : W P cx (.exit id) Q A := h
theorem w_seq (h : W P cx a (lthen (fun A => W P cx b Q A) Q) A) : W P cx (.seq a b) Q A := h
theorem w_block (h : W P cx a (linBlock id Q) A) : W P cx (.block id a) Q A := h
theorem w_loop (h : LoopW P cx a Q A) : W P cx (.loop a) Q A := h
theorem w_region {l : List Oper} (hm : n + 1000 = m) (hs : Nat.ble (8 * l.length) 1000 = true) (h : ∀ K : Env → Boxes → Prop, (∀ env box, Q .normal ⟨env, box, m⟩ → K env box) → regW P cx l.toArray draw n l 0 env box [] [] K) : W P cx (.region id l.toArray draw) Q ⟨env, box, n⟩ := by
  subst hm
  exact h _ fun env box hq => ⟨n + 1000, by have := Nat.le_of_ble_eq_true hs; simp; omega, hq⟩
theorem w_cond {y : Operand} {t : Bool} (hy : oeval env y = .v (.bool t)) (h1 : t = true → W P cx a Q ⟨env, box, n⟩) (h2 : t = false → W P cx b Q ⟨env, box, n⟩) : W P cx (.cond y a b) Q ⟨env, box, n⟩ := by
  simp only [W, hy]
  exact ⟨h1, h2⟩
theorem w_bit {y : Operand} {p : Prop} (hy : oeval env y = .bit p) (h1 : p → W P cx a Q ⟨env, box, n⟩) (h2 : W P cx b Q ⟨env, box, n⟩) : W P cx (.cond y a b) Q ⟨env, box, n⟩ := by
  simp only [W, hy]
  exact ⟨h1, h2⟩
theorem w_if {y : Operand} (hy : oeval env y = .v (.bool true)) (h : W P cx a Q ⟨env, box, n⟩) : W P cx (.cond y a b) Q ⟨env, box, n⟩ := w_cond hy (fun _ => h) (fun h => by cases h)
theorem w_else {y : Operand} (hy : oeval env y = .v (.bool false)) (h : W P cx b Q ⟨env, box, n⟩) : W P cx (.cond y a b) Q ⟨env, box, n⟩ := w_cond hy (fun h => by cases h) (fun _ => h)

/-- How a body ends, its results as a list. -/
def LEndsL (P : Program) (rs : List ResultVar) (x : AV) (A : LS) : Prop :=
  match rs, x with
    | [], .tup [] => True
    | [r], x => resW P A.env A.box r fun y => fzA A.box y x
    | [r, s], .tup [x, x'] => resW P A.env A.box r fun y => fzA A.box y x ∧ resW P A.env A.box s fun y => fzA A.box y x'
    | [r, s, t], .tup [x, x', x''] => resW P A.env A.box r fun y => fzA A.box y x ∧ resW P A.env A.box s fun y => fzA A.box y x' ∧ resW P A.env A.box t fun y => fzA A.box y x''
    | _, _ => False
theorem ends_r {rs : Array ResultVar} {l : List ResultVar} (hr : rs = l.toArray) (h : LEndsL P l x A) : LEnds P rs x .ret A := by subst hr; exact h
theorem ends_n {rs : Array ResultVar} {l : List ResultVar} (hr : rs = l.toArray) (h : LEndsL P l x A) : LEnds P rs x .normal A := by subst hr; exact h
def LEndsBL (P : Program) (rs : List ResultVar) (fp : List (Nat × Bx)) (x : AV) (tb : List (Nat × Option Bx)) (A : LS) : Prop :=
  (endB A.box (keptB tb fp) ∧ okT fp tb = true ∧ x.names (fun b => inl fp b || inl tb b) = true) ∧ match rs, x with
    | [], .tup [] => True
    | [r], x => resW P A.env A.box r fun y => fzX (restB A.box (tb ++ lives fp)) y x
    | [r, s], .tup [x, x'] => resW P A.env A.box r fun y => fzX (restB A.box (tb ++ lives fp)) y x ∧ resW P A.env A.box s fun y => fzX (restB A.box (tb ++ lives fp)) y x'
    | [r, s, t], .tup [x, x', x''] => resW P A.env A.box r fun y => fzX (restB A.box (tb ++ lives fp)) y x ∧ resW P A.env A.box s fun y => fzX (restB A.box (tb ++ lives fp)) y x' ∧ resW P A.env A.box t fun y => fzX (restB A.box (tb ++ lives fp)) y x''
    | _, _ => False
theorem endsB_r {rs : Array ResultVar} {fp : List (Nat × Bx)} {tb : List (Nat × Option Bx)} {l : List ResultVar} (hr : rs = l.toArray) (h : LEndsBL P l fp x tb A) : LEndsB P rs fp x tb .ret A := by subst hr; exact h
theorem endsB_n {rs : Array ResultVar} {fp : List (Nat × Bx)} {tb : List (Nat × Option Bx)} {l : List ResultVar} (hr : rs = l.toArray) (h : LEndsBL P l fp x tb A) : LEndsB P rs fp x tb .normal A := by subst hr; exact h

theorem args_k {args : List AV} (hA : argsL args 0 = env) (h : W P cx a Q ⟨env, box, n⟩) : W P cx a Q ⟨argsL args 0, box, n⟩ := by subst hA; exact h
theorem args_kb {args : List AV} {bx : Boxes} (hA : argsL args 0 = env) (hB : bx = box) (h : W P cx a Q ⟨env, box, n⟩) : W P cx a Q ⟨argsL args 0, bx, n⟩ := by subst hA hB; exact h
theorem lt_n (h : next A) : lthen next Q .normal A := h
theorem lt_r (h : Q .ret A) : lthen next Q .ret A := h
theorem lt_e (h : Q (.exit id) A) : lthen next Q (.exit id) A := h
theorem lb_n (h : Q .normal A) : linBlock id Q .normal A := h
theorem lb_r (h : Q .ret A) : linBlock id Q .ret A := h
theorem lb_e (h : Q .normal A) : linBlock id Q (.exit id) A := by unfold linBlock; simpa using h
theorem lb_m (hne : Nat.beq id' id = false) (h : Q (.exit id') A) : linBlock id Q (.exit id') A := by
  simp only [linBlock]
  rw [if_neg (by rintro rfl; simp at hne)]
  exact h
end
end Go.Proofs.YtkonljmmdifnaaaGreat.V
set_option linter.unusedSimpArgs false
set_option linter.unusedVariables false
namespace Go.Proofs.YtkonljmmdifnaaaGreat.V
open Go.RowKit
attribute [go_sem] reduceCtorEq Nat.reduceAdd Nat.reduceMul Nat.reduceEqDiff Nat.reduceLT Nat.reduceLeDiff Nat.reduceBEq Nat.reduceSub

theorem eget_cons (s t : Nat) (x : AV) (r : Env) : eget ((s, x) :: r) t = if t = s then x else eget r t := by simp only [eget]
theorem eget_nil (t : Nat) : eget [] t = .any := by simp only [eget]
theorem bget_cons (c b : Nat) (r : Option Bx) (l : Boxes) : bget ((c, r) :: l) b = if b = c then r else bget l b := by simp only [bget, bput]
theorem bget_nil (b : Nat) : bget [] b = none := by simp only [bget, bput]
theorem oeval_t (env : Env) (t : Tmp) : oeval env (.tmp t) = eget env t := by simp only [oeval]
theorem oeval_c (env : Env) (v : Value) : oeval env (.const v) = .v v := by simp only [oeval]
theorem oeval_g (env : Env) (g : Nat) : oeval env (.global g) = .v (.pointer (some ⟨g, 0, none⟩)) := by simp only [oeval]
theorem oeval_f (env : Env) (f : FuncId) : oeval env (.func f) = .v (.func (.func f) #[] #[]) := by simp only [oeval]
theorem seval_t (env : Env) (t : Tmp) : seval env (.tmp t) = (eget env t).strip := by simp only [seval, oeval]
theorem seval_c (env : Env) (v : Value) : seval env (.const v) = .v v := by simp only [seval, oeval, AV.strip]
theorem seval_g (env : Env) (g : Nat) : seval env (.global g) = .v (.pointer (some ⟨g, 0, none⟩)) := by simp only [seval, oeval, AV.strip]
theorem seval_f (env : Env) (f : FuncId) : seval env (.func f) = .v (.func (.func f) #[] #[]) := by simp only [seval, oeval, AV.strip]

theorem ldR_congr {ti ti' : Option TI} {x x' : AV} {box : Boxes} {c c' : Prop} (h1 : ti = ti') (h2 : x = x') (h3 : c = c') : ldR ti x box c = ldR ti' x' box c' := by subst h1 h2 h3; rfl
theorem stR_congr {ti ti' : Option TI} {x x' u u' : AV} {box : Boxes} {c c' : Prop} (h1 : ti = ti') (h2 : x = x') (h4 : u = u') (h3 : c = c') : stR ti x u box c = stR ti' x' u' box c' := by subst h1 h2 h3 h4; rfl
theorem appR_congr {P : Program} {k k' : Option TK} {nm nm' : Nat} {s s' x x' : AV} {box : Boxes} {c c' : Prop} (h1 : k = k') (h5 : nm = nm') (h2 : s = s') (h4 : x = x') (h3 : c = c') : appR P k nm box s x c = appR P k' nm' box s' x' c' := by subst h1 h2 h3 h4 h5; rfl
theorem srcOf_congr {box : Boxes} {k k' : Nat} {x x' : AV} (h1 : k = k') (h2 : x = x') : srcOf box k x = srcOf box k' x' := by subst h1 h2; rfl
theorem fz_congr {box : Boxes} {d d' : Nat} {x x' y y' : AV} (h0 : d = d') (h1 : x = x') (h2 : y = y') : fz box d x y = fz box d' x' y' := by subst h0 h1 h2; rfl
theorem fzA_congr {box : Boxes} {x x' y y' : AV} (h1 : x = x') (h2 : y = y') : fzA box x y = fzA box x' y' := by subst h1 h2; rfl
def zerosR (cs : List AV) : Nat → List AV
  | 0 => []
  | n + 1 => cs ++ zerosR cs n
theorem zerosOf_eq {z : Value} {k : Nat} (hz : z.cells.toList.length = k) (hk : 0 < k) (n : Nat) : zerosOf z k n = zerosR (z.cells.toList.map .v) n := by
  have key : ∀ n, (List.range (n * k)).map (fun i => AV.v (z.cells.getD (i % k) undef)) = zerosR (z.cells.toList.map .v) n := by
    intro n
    induction n with
    | zero => simp [zerosR]
    | succ n ih =>
      rw [zerosR, ← ih, Nat.succ_mul, Nat.add_comm, List.range_add, List.map_append, List.map_map]
      congr 1
      · apply List.ext_getElem
        · simp [← hz]
        · intro i h1 h2
          simp at h1 h2
          simp [Nat.mod_eq_of_lt h1, Array.getD_eq_getD_getElem?]
          rw [Array.getElem?_eq_getElem h2]
          rfl
      · refine List.map_congr_left fun i _ => ?_
        simp
  exact key n
attribute [go_sem] zerosOf_eq zerosR beq_self_eq_true
def fzo (b : Option Bx) (R : AV → AV → Prop) (k off n : Nat) (l : List (List AV)) : Prop :=
  match b with
  | some bx => off + n * k ≤ bx.cs.length ∧ (((bx.cs.drop off).take (n * k) = l.flatten ∧ ∀ r, r ∈ l → ∀ y, y ∈ r → y.isData = true) ∨ fzl R ((bx.cs.drop off).take (n * k)) l.flatten)
  | none => False
theorem fz_osl (box : Boxes) (d b k off n : Nat) (f' : Bool) (k' : Nat) (l' : List (List AV)) : fz box (d + 1) (.osl b k off n) (.sl f' k' l') = ((f' = false ∧ k = k' ∧ 0 < k ∧ n = l'.length ∧ (∀ r, r ∈ l' → r.length = k)) ∧ fzo (bget box b) (fz box d) k off n l') := by
  rw [fz]
  unfold fzo
  refine congrArg _ (propext ⟨?_, ?_⟩)
  · rintro ⟨bx, h, h2⟩
    rw [h]
    exact h2
  · intro h
    split at h
    · rename_i bx hb
      exact ⟨bx, hb, h⟩
    · exact h.elim
def fzp (b : Option Bx) (R : AV → AV → Prop) (off : Nat) (l : List AV) : Prop :=
  match b with
  | some bx => fzl R (bx.cs.drop off) l
  | none => False
theorem fz_ptr (box : Boxes) (d b off : Nat) (l : List AV) : fz box (d + 1) (.ptr b off) (.pp l) = (l ≠ [] ∧ fzp (bget box b) (fz box d) off l) := by
  rw [fz]
  unfold fzp
  refine congrArg _ (propext ⟨?_, ?_⟩)
  · rintro ⟨bx, h, h2⟩
    rw [h]
    exact h2
  · intro h
    split at h
    · rename_i bx hb
      exact ⟨bx, hb, h⟩
    · exact h.elim
def ints? : List AV → Option (List Int)
  | [] => some []
  | .v (.int .i64 n) :: l => match ints? l with
    | some r => some (n :: r)
    | none => none
  | _ => none
theorem mapM_ints : ∀ (l : List AV), l.mapM AV.int? = ints? l
  | [] => by simp [ints?]
  | x :: l => by
    have ih := mapM_ints l
    rw [List.mapM_cons, ih]
    unfold AV.int?
    split
    · simp only [ints?, Option.bind_eq_bind, Option.bind_some]
      cases ints? l <;> rfl
    · rename_i h
      rw [Option.bind_eq_bind, Option.bind_none]
      unfold ints?
      split
      · rename_i e; cases e
      · rename_i n l' e; injection e with e1 e2; exact absurd e1 (h n)
      · rfl
attribute [go_sem] mapM_ints ints?
def scs? : List AV → Option (List Sc)
  | [] => some []
  | .v (.int .i64 n) :: l => match scs? l with
    | some r => some (.i n :: r)
    | none => none
  | .v (.bool x) :: l => match scs? l with
    | some r => some (.b x :: r)
    | none => none
  | _ => none
theorem mapM_scs : ∀ (l : List AV), l.mapM AV.sc? = scs? l
  | [] => by simp [scs?]
  | x :: l => by
    have ih := mapM_scs l
    rw [List.mapM_cons, ih]
    unfold AV.sc?
    split
    · simp only [scs?, Option.bind_eq_bind, Option.bind_some]
      cases scs? l <;> rfl
    · simp only [scs?, Option.bind_eq_bind, Option.bind_some]
      cases scs? l <;> rfl
    · rename_i h1 h2
      rw [Option.bind_eq_bind, Option.bind_none]
      unfold scs?
      split
      · rename_i e; cases e
      · rename_i n l' e; injection e with e1 e2; exact absurd e1 (h1 n)
      · rename_i n l' e; injection e with e1 e2; exact absurd e1 (h2 n)
      · rfl
attribute [go_sem] mapM_scs scs?
theorem fz_vv (box : Boxes) (d : Nat) (a b : Value) : fz box (d + 1) (.v a) (.v b) = (a = b) := by rw [fz]
theorem fz_sl (box : Boxes) (d : Nat) (f f' : Bool) (k k' : Nat) (l l' : List (List AV)) : fz box (d + 1) (.sl f k l) (.sl f' k' l') = (k = k' ∧ l = l' ∧ (f' = true → f = true)) := by rw [fz]
theorem fz_nil (box : Boxes) (d : Nat) (f : Bool) (k : Nat) (l : List (List AV)) : fz box (d + 1) (.v (.slice none 0 0)) (.sl f k l) = (l = []) := by rw [fz]
theorem fz_pp (box : Boxes) (d : Nat) (l l' : List AV) : fz box (d + 1) (.pp l) (.pp l') = (l = l') := by rw [fz]
theorem fz_fn (box : Boxes) (d : Nat) (f f' : Fn) (l l' m m' : List AV) : fz box (d + 1) (.fn f l m) (.fn f' l' m') = (f = f' ∧ fzl (fz box d) l l' ∧ fzl (fz box d) m m') := by rw [fz]
theorem fz_agg (box : Boxes) (d : Nat) (l l' : List AV) : fz box (d + 1) (.agg l) (.agg l') = fzl (fz box d) l l' := by rw [fz]
theorem fz_tup (box : Boxes) (d : Nat) (l l' : List AV) : fz box (d + 1) (.tup l) (.tup l') = fzl (fz box d) l l' := by rw [fz]
theorem fzA_eq (box : Boxes) (x y : AV) : fzA box x y = fz box 6 x y := rfl
/-- Rows of a kind. -/
theorem rows_len {α : Type} {F : α → List AV} {k : Nat} (hk : ∀ x, (F x).length = k) (l : List α) : ∀ r, r ∈ l.map F → r.length = k := by
  intro r hr
  obtain ⟨x, -, rfl⟩ := List.mem_map.1 hr
  exact hk x
theorem fzo_rows {α : Type} {F : α → List AV} {k : Nat} {t : TypeId} {R : AV → AV → Prop} (hk : ∀ x, (F x).length = k) (hd : ∀ x, (F x).all AV.isData = true) (l : List α) {n : Nat} (hn : n = l.length) : fzo (some ⟨t, (l.map F).flatten⟩) R k 0 n (l.map F) := by
  subst hn
  have hl := length_flat (l.map F) (rows_len hk l)
  rw [List.length_map] at hl
  refine ⟨by rw [hl]; omega, .inl ⟨by rw [List.drop_zero]; exact List.take_of_length_le (by rw [hl]; exact Nat.le_refl _), fun r hr y hy => ?_⟩⟩
  obtain ⟨x, -, rfl⟩ := List.mem_map.1 hr
  exact List.all_eq_true.1 (hd x) y hy
attribute [go_sem] fz_osl fz_ptr fz_vv fz_sl fz_nil fz_pp fz_fn fz_agg fz_tup fzA_eq
attribute [go_sem] imp_self fzp true_or or_true or_false false_or
attribute [congr] ldR_congr stR_congr appR_congr srcOf_congr fz_congr fzA_congr

theorem nf1 (s : Bool) : ((!s) = false) = (s = true) := by simp
theorem nf2 (s : Bool) : ((!s) = true) = (s = false) := by simp
attribute [go_sem] List.all_toArray' Bool.not_not Option.isSome_some Option.isSome_none false_implies true_implies nf1 nf2 Value.int.injEq Value.bool.injEq AV.v.injEq Bool.false_eq_true
@[go_sem] theorem arr_size {α : Type} (l : List α) : l.toArray.size = l.length := by simp
@[go_sem] theorem toL {α : Type} (l : List α) : l.toArray.toList = l := by simp
attribute [go_sem ↓] callOps eget_cons eget_nil bget_cons bget_nil oeval_t oeval_c oeval_g oeval_f seval_t seval_c seval_g seval_f opR callR guardOf sevals sevs sevo cndsOK seconds
attribute [go_sem] Nat.beq isSlK lkR taR ixR mmR ofV isConst kindOfT cvR mkR ldR stR fldR idxR binR unR boxR allocR buildR bslR slcR lenR appR extR ncR fieldR pickR cndOK cndOK2
attribute [go_sem] ne_eq not_false_eq_true not_true_eq_false and_true true_and and_self implies_true forall_const
attribute [go_sem] List.all_cons List.all_nil List.any_cons List.any_nil List.length_cons List.length_nil List.cons_append List.nil_append List.append_nil List.map_cons List.map_nil List.drop_succ_cons List.drop_zero List.drop_nil List.take_succ_cons List.take_zero List.take_nil
  List.getElem?_cons_zero List.getElem?_cons_succ List.getElem?_nil List.flatten_cons List.flatten_nil Bool.and_true Bool.true_and Bool.and_false Bool.false_and Bool.or_true Bool.true_or Bool.or_false Bool.false_or Bool.not_true Bool.not_false Bool.cond_true Bool.cond_false Option.getD_some Option.getD_none Option.map_some Option.map_none Int.toNat_natCast decide_true decide_false Bool.and_self Bool.or_self
  List.isEmpty_cons List.isEmpty_nil List.filter_cons List.filter_nil List.reverse_cons Nat.zero_add Nat.add_zero Nat.zero_mul Nat.one_mul Nat.mul_one
attribute [go_sem] imp1 imp2 imp3 imp4 imp5 imp6 imp7 imp8 imp9
attribute [go_sem] AV.strip econs ldAV splice AV.cells AV.flat AV.one kills placesOf knownAll afill srcOf argsL OpS.nm OpS.reads OpS.turns
  Op.operands Call.operands Value.oneCell' Value.cells LEndsL LEndsBL resW fzl pickB liveOf restB fzX endB keptB lives inl okF okT Bx.okN look boxesOK freshOK renF renT Bx.ren injN nmsF nmsT AV.flat0

@[go_sem] theorem ib_add (k : IntKind) (a b : Int) : intBin .add k a b = some (.v (.int k (k.wrap (a + b)))) := by simp only [intBin]
@[go_sem] theorem ib_sub (k : IntKind) (a b : Int) : intBin .sub k a b = some (.v (.int k (k.wrap (a - b)))) := by simp only [intBin]
@[go_sem] theorem ib_mul (k : IntKind) (a b : Int) : intBin .mul k a b = some (.v (.int k (k.wrap (a * b)))) := by simp only [intBin]
@[go_sem] theorem ib_eql (k : IntKind) (a b : Int) : intBin .eql k a b = some (.v (.bool (decide (a = b)))) := by simp only [intBin]; by_cases h : a = b <;> simp [h]
@[go_sem] theorem ib_neq (k : IntKind) (a b : Int) : intBin .neq k a b = some (.v (.bool (!decide (a = b)))) := by simp only [intBin]; by_cases h : a = b <;> simp [h]
@[go_sem] theorem ib_lss (k : IntKind) (a b : Int) : intBin .lss k a b = some (.v (.bool (decide (a < b)))) := by simp only [intBin]
@[go_sem] theorem ib_leq (k : IntKind) (a b : Int) : intBin .leq k a b = some (.v (.bool (decide (a ≤ b)))) := by simp only [intBin]
@[go_sem] theorem ib_gtr (k : IntKind) (a b : Int) : intBin .gtr k a b = some (.v (.bool (decide (b < a)))) := by simp only [intBin]; try rfl
@[go_sem] theorem ib_geq (k : IntKind) (a b : Int) : intBin .geq k a b = some (.v (.bool (decide (b ≤ a)))) := by simp only [intBin]; try rfl
@[go_sem] theorem ib_quo (k : IntKind) (a b : Int) (h : b ≠ 0) : intBin .quo k a b = some (.v (.int k (k.wrap (a.tdiv b)))) := by simp only [intBin, if_neg h]
@[go_sem] theorem ib_rem (k : IntKind) (a b : Int) (h : b ≠ 0) : intBin .rem k a b = some (.v (.int k (a.tmod b))) := by simp only [intBin, if_neg h]
theorem ib_shr (k : IntKind) (a b : Int) (h : 0 ≤ b) : intBin .shr k a b = some (.v (.int k (a.fdiv (2 ^ min b.toNat k.bits)))) := by simp only [intBin, if_neg (Int.not_lt.2 h)]
@[go_sem] theorem ib_shr1 (k : IntKind) (a : Int) : intBin .shr k a 1 = some (.v (.int k (a.fdiv 2))) := by rw [ib_shr _ _ _ (by decide)]; cases k <;> rfl
@[go_sem] theorem ib_and (k : IntKind) (a b : Int) : intBin .and k a b = some (.v (.int k (k.wrap (BitVec.ofInt k.bits a &&& BitVec.ofInt k.bits b).toNat))) := by simp only [intBin]

@[go_sem] theorem pickAV_t (x y : AV) : pickAV true x y = x := by rw [pickAV_eq]; rfl
@[go_sem] theorem pickAV_f (x y : AV) : pickAV false x y = y := by rw [pickAV_eq]; rfl
@[go_sem] theorem pickAV_and (t p : Bool) : pickAV t (.v (.bool p)) (.v (.bool false)) = .v (.bool (t && p)) := by cases t <;> rw [pickAV_eq] <;> rfl
@[go_sem] theorem pickAV_or (t q : Bool) : pickAV t (.v (.bool true)) (.v (.bool q)) = .v (.bool (t || q)) := by cases t <;> rw [pickAV_eq] <;> rfl

attribute [go_sem] Option.toList_some Option.toList_none List.length_map List.length_append List.length_take List.length_drop List.getElem?_map
attribute [go_sem] LCut lcutE lcutB lcutI ren_v ren_any ren_sl ren_pp ren_ptr ren_osl ren_agg ren_tup ren_fn ren_iface ren_iff names_iff names_v names_any names_sl names_pp names_ptr names_osl names_agg names_tup names_fn names_iface
attribute [go_sem] isData_v isData_sl isData_agg isData_tup isData_pp isData_fn id_eq
end Go.Proofs.YtkonljmmdifnaaaGreat.V
set_option linter.unusedSimpArgs false
set_option linter.unusedVariables false
namespace Go.Proofs.YtkonljmmdifnaaaGreat.V
open Go.RowKit
variable {P : Program} {cx : Cx} {env : Env} {box : Boxes} {n0 i : Nat}

/-- Method 'name' of type t is function f, on the value itself. -/
def Inv (P : Program) (t : TypeId) (name : String) (f : FuncId) : Prop := ∀ (v : Value) (us : Array Value) (w : World), (callMethod (.iface t v) name us).run P w = .ok (.enter f (#[v] ++ us)) w

theorem repA_iface {ι : Nat → Option Nat} {M : Nat → Prop} {w : World} {v : Value} {t : TypeId} {x : AV} (h : RepA ι M w v (.iface t x)) : ∃ u, v = .iface t u ∧ RepA ι M w u x := by
  generalize ha : AV.iface t x = a at h
  induction h with
  | iface h => cases ha; exact ⟨_, rfl, h⟩
  | d h => subst ha; cases h
  | _ => cases ha

theorem enters_inv {o : Oper} {ρ : Operand → AV} {c : Operand} {name : String} {t : TypeId} {x : AV} {f : FuncId} {args : Array Operand} {ats : Array TypeId} (ho : o.op = .call { callee := .invoke c name, args := args, argTypes := ats }) (hf : ρ c = .iface t x) (hI : Inv P t name f) :
    Enters P o ρ f (x :: args.toList.map ρ) := by
  intro hc ι M a w hops
  have h1 := hops c (mem_ops ho (by simp [Op.operands, Call.operands]))
  rw [hf] at h1
  obtain ⟨u, hv, hu⟩ := repA_iface h1
  refine ⟨#[u] ++ args.map a.eval, ?_, by simp [Nat.add_comm], ?_⟩
  · have h2 := hI u (args.map a.eval) w
    have e0 : (#[Value.iface t u] ++ args.map a.eval)[0]? = some (.iface t u) := by rw [Array.getElem?_append_left (by simp)]; rfl
    have e1 : (args.map a.eval).extract 0 args.size = args.map a.eval := by
      simp
    simp [execOp, ho, resolve, hv, invoke, e0, e1]
    exact h2
  · intro i v y hv hy
    rcases i with _ | i
    · rw [Array.getElem?_append_left (by simp)] at hv
      simp only [List.getElem?_cons_zero, List.getElem?_toArray, Option.some.injEq] at hv hy
      subst hv hy
      exact hu
    · rw [Array.getElem?_append_right (by simp)] at hv
      simp only [Array.size_singleton, Nat.add_sub_cancel, List.getElem?_cons_succ, Array.getElem?_map, Option.map_eq_some_iff, List.getElem?_map, Array.getElem?_toList] at hv hy
      obtain ⟨p, hp, rfl⟩ := hv
      obtain ⟨q, hq, rfl⟩ := hy
      rw [hp] at hq
      injection hq with hq
      subst hq
      exact hops p (mem_ops ho (by
        simp only [Op.operands, Call.operands]
        exact Array.mem_append.2 (.inr (Array.mem_of_getElem? hp))))

def invR (env : Env) (c : Call) : Option (TypeId × String × List AV) :=
  match c.callee with
  | .invoke y name => match seval env y with
    | .iface t x => some (t, name, x :: sevs env c.args.toList)
    | _ => none
  | _ => none

theorem invR_ok {hyp : Prop} {o : Oper} {cl : Call} {t : TypeId} {name : String} {f : FuncId} {nm : Nat} {l : List AV} {K : OpS → Prop} (ho : o.op = .call cl) (h : invR env cl = some (t, name, l)) (hI : Inv P t name f) (hc : cndsOK hyp env cl.operands.toList) (hK : CallW P cx hyp env box nm f l o K) : opW P cx hyp env box nm o K := by
  obtain ⟨callee, args, ats⟩ := cl
  unfold opW
  rw [ho]
  refine ⟨cnds_ops hc, ?_⟩
  unfold restW
  simp only [ho]
  unfold invR at h
  rw [sevs_eq] at h
  cases callee with
  | invoke y name' =>
    simp only at h
    split at h
    · rename_i t' x e2
      injection h with h; injection h with h1 h; injection h with h2 h3; subst h1 h2 h3
      exact hK (enters_inv ho e2 hI)
    · cases h
  | value y => cases h
  | builtin b => cases h

variable {ops : Array Oper} {draw : Bool} {rest : List Oper} {u : List Nat} {acc : List (List Nat × List Nat)} {K : Env → Boxes → Prop} {dst : Option Tmp} {ty : TypeId} {pos : String} {after : Array Edge} {nm : Nat} {g : Bool} {d : Tmp}

theorem rs_inv {cl : Call} {t : TypeId} {name : String} {f : FuncId} {l : List AV} (hS : invR env cl = some (t, name, l)) (hn : n0 + 8 * i = nm) (hI : Inv P t name f) (hK : CallW P cx True env box nm f l { dst := dst, op := .call cl, type := ty, pos := pos, after := after, guard := none } (regK P cx ops draw n0 rest i env box u acc K dst)) (hc : cndsOK True env (callOps cl)) :
    regW P cx ops draw n0 ({ dst := dst, op := .call cl, type := ty, pos := pos, after := after, guard := none } :: rest) i env box u acc K := by
  subst hn
  rw [← callOps_eq] at hc
  exact invR_ok (cx := cx) (o := { dst := dst, op := .call cl, type := ty, pos := pos, after := after, guard := none }) rfl hS hI hc hK

theorem rs_invg {jj : Nat} {want : Bool} {cl : Call} {t : TypeId} {name : String} {f : FuncId} {l : List AV} (hd : dstOf ops jj = some d) (hg : guardOf env want d = some g) (hS : invR env cl = some (t, name, l)) (hn : n0 + 8 * i = nm) (hI : Inv P t name f) (hK : CallW P cx (g = true) env box nm f l { dst := dst, op := .call cl, type := ty, pos := pos, after := after, guard := some (jj, want) } (regG P cx ops draw n0 rest i env box u acc K g dst)) (hc : cndsOK (g = true) env (callOps cl)) :
    regW P cx ops draw n0 ({ dst := dst, op := .call cl, type := ty, pos := pos, after := after, guard := some (jj, want) } :: rest) i env box u acc K := by
  subst hn
  rw [← callOps_eq] at hc
  unfold regW
  simp only [hd, hg]
  exact .inr (invR_ok (cx := cx) (o := { dst := dst, op := .call cl, type := ty, pos := pos, after := after, guard := some (jj, want) }) rfl hS hI hc hK)

attribute [go_sem ↓] invR
end Go.Proofs.YtkonljmmdifnaaaGreat.V
set_option linter.unusedSimpArgs false
set_option linter.unusedVariables false
namespace Go.Proofs.YtkonljmmdifnaaaGreat.V
open Go.RowKit
variable {P : Program} {cx : Cx} {ops : Array Oper} {draw : Bool} {n0 i j nm m n : Nat} {rest : List Oper} {env : Env} {box : Boxes} {u : List Nat} {acc : List (List Nat × List Nat)} {K : Env → Boxes → Prop} {S : OpS} {c : Prop}
  {op : Op} {ty : TypeId} {pos : String} {after : Array Edge} {dst : Option Tmp} {d : Tmp} {x : AV} {fp : List (Nat × Bx)} {g : Bool} {Q : Exit → LS → Prop} {A : LS} {a b : Code}

def ByD (p : Prop) : Prop := p
theorem byD {p : Prop} (h : p) : ByD p := h
def ByE (p : Prop) : Prop := p
theorem ce {p : Prop} (hn : 0 = 0) (hy : p) : ByE p := hy

/-- An operation whose guard is known. -/
def GdW (P : Program) (cx : Cx) (ops : Array Oper) (draw : Bool) (n0 : Nat) (o : Oper) (rest : List Oper) (i : Nat) (env : Env) (box : Boxes) (u : List Nat) (acc : List (List Nat × List Nat)) (K : Env → Boxes → Prop) (jj : Nat) (want : Bool) (d : Tmp) (g : Bool) : Prop :=
  dstOf ops jj = some d → guardOf env want d = some g → regW P cx ops draw n0 (o :: rest) i env box u acc K

theorem rs_gd {op : Op} {jj : Nat} {want : Bool} (hd : dstOf ops jj = some d) (hy : guardOf env want d = some g) (h : GdW P cx ops draw n0 { dst := dst, op := op, type := ty, pos := pos, after := after, guard := some (jj, want) } rest i env box u acc K jj want d g) :
    regW P cx ops draw n0 ({ dst := dst, op := op, type := ty, pos := pos, after := after, guard := some (jj, want) } :: rest) i env box u acc K := h hd hy
theorem gd_f {jj : Nat} {want : Bool} (hi : i + 1 = j) (h : regW P cx ops draw n0 rest j (econs dst (.iff false (.v (.bool false))) env) box u (([], []) :: acc) K) :
    GdW P cx ops draw n0 { dst := dst, op := op, type := ty, pos := pos, after := after, guard := some (jj, want) } rest i env box u acc K jj want d false := fun hd hy => rs_gf hd hy hi h
theorem gd_c {jj : Nat} {want : Bool} {y : Operand} {args : Array Operand} {ats : Array TypeId} {f : FuncId} {l : List AV} (hn : n0 + 8 * i = nm) (hy : callR env ⟨.value y, args, ats⟩ = some (f, l))
    (hK : CallW P cx (g = true) env box nm f l { dst := dst, op := .call ⟨.value y, args, ats⟩, type := ty, pos := pos, after := after, guard := some (jj, want) } (regG P cx ops draw n0 rest i env box u acc K g dst)) (hc : ByE (cndsOK (g = true) env (callOps ⟨.value y, args, ats⟩))) :
    GdW P cx ops draw n0 { dst := dst, op := .call ⟨.value y, args, ats⟩, type := ty, pos := pos, after := after, guard := some (jj, want) } rest i env box u acc K jj want d g := fun hd hg => rs_callg hd hg hy hn hK hc
theorem gd_u {jj : Nat} {want : Bool} (hn : n0 + 8 * i = nm) (hy : opR P (g = true) env box nm op = some (S, c)) (hK : regG P cx ops draw n0 rest i env box u acc K g dst S) (hc : c) :
    GdW P cx ops draw n0 { dst := dst, op := op, type := ty, pos := pos, after := after, guard := some (jj, want) } rest i env box u acc K jj want d g := fun hd hg => rs_g hd hg hn hy hK hc
theorem rs_c {y : Operand} {args : Array Operand} {ats : Array TypeId} {f : FuncId} {l : List AV} (hn : n0 + 8 * i = nm) (hy : callR env ⟨.value y, args, ats⟩ = some (f, l))
    (hK : CallW P cx True env box nm f l { dst := dst, op := .call ⟨.value y, args, ats⟩, type := ty, pos := pos, after := after, guard := none } (regK P cx ops draw n0 rest i env box u acc K dst)) (hc : ByE (cndsOK True env (callOps ⟨.value y, args, ats⟩))) :
    regW P cx ops draw n0 ({ dst := dst, op := .call ⟨.value y, args, ats⟩, type := ty, pos := pos, after := after, guard := none } :: rest) i env box u acc K := rs_call hy hn hK hc
theorem rs_o (hn : n0 + 8 * i = nm) (hy : opR P True env box nm op = some (S, c)) (hK : regK P cx ops draw n0 rest i env box u acc K dst S) (hc : c) :
    regW P cx ops draw n0 ({ dst := dst, op := op, type := ty, pos := pos, after := after, guard := none } :: rest) i env box u acc K := rs_u hn hy hK hc

/-- A condition whose value is known. -/
def CndW (P : Program) (cx : Cx) (a b : Code) (Q : Exit → LS → Prop) (env : Env) (box : Boxes) (n : Nat) (x : AV) : Prop := ∀ y, oeval env y = x → W P cx (.cond y a b) Q ⟨env, box, n⟩
theorem w_c {y : Operand} (hy : oeval env y = x) (h : CndW P cx a b Q env box n x) : W P cx (.cond y a b) Q ⟨env, box, n⟩ := h y hy
theorem cw_t (h : W P cx a Q ⟨env, box, n⟩) : CndW P cx a b Q env box n (.v (.bool true)) := fun _ hy => w_if hy h
theorem cw_f (h : W P cx b Q ⟨env, box, n⟩) : CndW P cx a b Q env box n (.v (.bool false)) := fun _ hy => w_else hy h
theorem cw_c {t : Bool} (h1 : t = true → W P cx a Q ⟨env, box, n⟩) (h2 : t = false → W P cx b Q ⟨env, box, n⟩) : CndW P cx a b Q env box n (.v (.bool t)) := fun _ hy => w_cond hy h1 h2
theorem cw_b {p : Prop} (h1 : p → W P cx a Q ⟨env, box, n⟩) (h2 : W P cx b Q ⟨env, box, n⟩) : CndW P cx a b Q env box n (.bit p) := fun _ hy => w_bit hy h1 h2

theorem callX {hyp : Prop} {f : FuncId} {l xs : List AV} {o : Oper} {K : OpS → Prop} (hc : Callable P f) (hF : Fun P f xs x) (hl : l = xs) (hd : ByD (xs.all AV.isData = true)) (hK : K ⟨[], x, []⟩) : CallW P cx hyp env box nm f l o K := callWe hc hF hl hd hK
theorem callFX {hyp : Prop} {f : FuncId} {l xs : List AV} {o : Oper} {K : OpS → Prop} {pb : Boxes} {kb : List (Nat × Option Bx)} (ns : List Nat) (hc : Callable P f) (hF : Fun P f xs x) (hy : pickB box ns = pb) (hl : liveOf pb pb = fp) (hk : kills fp = kb)
    (hz : fzl (fz pb 6) l xs) (hK : K ⟨fp, x, kb⟩) : CallW P cx hyp env box nm f l o K := callF' ns hc hF hy hl hk hz hK

/-! ### The same, with marks on what is to be shown beside -/

def ByR (p : Prop) : Prop := p
theorem byKt {b : Bool} (h : b = true) : ByK (b = true) := h
theorem byKs {α : Type} {o : Option α} {y : α} (h : o = some y) : ByK (o = some y) := h
theorem byR {p : Prop} (h : p) : ByR p := h
theorem byE {p : Prop} (h : p) : ByE p := h
def ByL (p : Prop) : Prop := p
theorem byL {p : Prop} (h : p) : ByL p := h
def ByG (p : Prop) : Prop := p
theorem byG {p : Prop} (h : p) : ByG p := h
def ByQ (p : Prop) : Prop := p
theorem byQ {p : Prop} (h : p) : ByQ p := h
def ByI (p : Prop) : Prop := p
theorem byI {p : Prop} (h : p) : ByI p := h
def ByH (p : Prop) : Prop := p
theorem byH {p : Prop} (h : p) : ByH p := h
def ByN (p : Prop) : Prop := p
theorem byN {p : Prop} (h : p) : ByN p := h

/-- What a condition says. -/
theorem hqs : (∀ (p : Prop) [Decidable p], (decide p = true) = p) ∧ (∀ (p : Prop) [Decidable p], (decide p = false) = ¬ p) ∧ (∀ a b : Bool, ((a && b) = true) = (a = true ∧ b = true)) ∧ (∀ a b : Bool, ((a || b) = true) = (a = true ∨ b = true)) ∧ (∀ a b : Bool, ((a && b) = false) = (a = false ∨ b = false)) ∧
    (∀ a b : Bool, ((a || b) = false) = (a = false ∧ b = false)) ∧ (∀ b : Bool, ((!b) = true) = (b = false)) ∧ (∀ b : Bool, ((!b) = false) = (b = true)) ∧ (∀ a b : Int, (¬ a < b) = (b ≤ a)) ∧ (∀ a b : Int, (¬ a ≤ b) = (b < a)) := by
  refine ⟨fun p _ => by simp, fun p _ => by simp, fun a b => by cases a <;> cases b <;> simp, fun a b => by cases a <;> cases b <;> simp, fun a b => by cases a <;> cases b <;> simp, fun a b => by cases a <;> cases b <;> simp, fun b => by simp, fun b => by simp, fun a b => by simp, fun a b => by simp⟩

theorem Aa (h : regW P cx ops draw n0 rest (i + 1) ((d, x) :: env) box u (([], []) :: acc) K) : regK P cx ops draw n0 rest i env box u acc K (some d) ⟨[], x, []⟩   := rk_v rfl h
theorem Ab {b : Nat} {bx : Bx} (h : regW P cx ops draw n0 rest (i + 1) ((d, x) :: env) box u (([b], []) :: acc) K) : regK P cx ops draw n0 rest i env box u acc K (some d) ⟨[(b, bx)], x, []⟩   := rk_r rfl h
theorem Ac (h : regW P cx ops draw n0 rest (i + 1) env box u (([], []) :: acc) K) : regK P cx ops draw n0 rest i env box u acc K none ⟨[], x, []⟩   := rk_vn rfl h
theorem Ad (h : regW P cx ops draw n0 rest (i + 1) ((d, .iff g x) :: env) box u (([], []) :: acc) K) : regG P cx ops draw n0 rest i env box u acc K g (some d) ⟨[], x, []⟩   := rg_v rfl h
theorem Ae {b : Nat} {bx : Bx} (h : regW P cx ops draw n0 rest (i + 1) ((d, .iff g x) :: env) box u (([b], []) :: acc) K) : regG P cx ops draw n0 rest i env box u acc K g (some d) ⟨[(b, bx)], x, []⟩   := rg_r rfl h
theorem Af {b b' : Nat} {r : Option Bx} {bx : Bx} (hb : ByK (Nat.blt b (n0 + 8 * i + 8) = true)) (h : regW P cx ops draw n0 rest (i + 1) env ((b, r) :: box) (b :: u) (([b'], [b]) :: acc) K) : regK P cx ops draw n0 rest i env box u acc K none ⟨[(b', bx)], x, [(b, r)]⟩   := rk_s rfl hb h
theorem Ag {b : Nat} {r : Option Bx} (hb : ByK (Nat.blt b (n0 + 8 * i + 8) = true)) (h : regW P cx ops draw n0 rest (i + 1) ((d, x) :: env) ((b, r) :: box) (b :: u) (([], [b]) :: acc) K) : regK P cx ops draw n0 rest i env box u acc K (some d) ⟨[], x, [(b, r)]⟩   := rk_n rfl hb h
theorem Ah {b b' b0 : Nat} {r r' : Option Bx} {bx : Bx} (hb : ByK ((Nat.blt b (n0 + 8 * i + 8) && Nat.blt b' (n0 + 8 * i + 8)) = true)) (h : regW P cx ops draw n0 rest (i + 1) ((d, x) :: env) ((b, r) :: (b', r') :: box) (b :: b' :: u) (([b0], [b, b']) :: acc) K) :
    regK P cx ops draw n0 rest i env box u acc K (some d) ⟨[(b0, bx)], x, [(b, r), (b', r')]⟩   := rk_a rfl hb h
theorem Ai {b b' : Nat} {r : Option Bx} {bx : Bx} (hb : ByK (Nat.blt b (n0 + 8 * i + 8) = true)) (h : regW P cx ops draw n0 rest (i + 1) ((d, x) :: env) ((b, r) :: box) (b :: u) (([b'], [b]) :: acc) K) : regK P cx ops draw n0 rest i env box u acc K (some d) ⟨[(b', bx)], x, [(b, r)]⟩   := rk_rn rfl hb h
theorem Aj {jj : Nat} {want : Bool} (h : regW P cx ops draw n0 rest (i + 1) (econs dst (.iff false (.v (.bool false))) env) box u (([], []) :: acc) K) :
    GdW P cx ops draw n0 { dst := dst, op := op, type := ty, pos := pos, after := after, guard := some (jj, want) } rest i env box u acc K jj want d false   := gd_f rfl h
theorem Ak {b : Nat} {y : Bx} (hb : ByK (Nat.blt b (n0 + 8 * i + 8) = true)) (ht : ByG (g = true → regW P cx ops draw n0 rest (i + 1) ((d, x) :: env) ((b, some y) :: box) (b :: u) (([], [b]) :: acc) K)) (hf : ByG (g = false → regW P cx ops draw n0 rest (i + 1) ((d, .iff false x) :: env) box u (([], []) :: acc) K)) :
    regG P cx ops draw n0 rest i env box u acc K g (some d) ⟨[], x, [(b, some y)]⟩   := rg_n rfl hb ht hf
theorem Al {b b' : Nat} {bx y : Bx} (hb : ByK (Nat.blt b (n0 + 8 * i + 8) = true)) (ht : ByG (g = true → regW P cx ops draw n0 rest (i + 1) env ((b, some y) :: box) (b :: u) (([b'], [b]) :: acc) K)) (hf : ByG (g = false → regW P cx ops draw n0 rest (i + 1) env box u (([b'], []) :: acc) K)) :
    regG P cx ops draw n0 rest i env box u acc K g none ⟨[(b', bx)], x, [(b, some y)]⟩   := rg_s rfl hb ht hf
theorem Am {tb : List (Nat × Option Bx)} {env' : Env} {box' : Boxes} {u' : List Nat} {a : List Nat × List Nat} (hb : ByK ((tb.all (fun p => Nat.blt p.1 (n0 + 8 * i + 8))) = true)) (h1 : ByL (econs dst x env = env')) (h2 : ByL (tb ++ box = box')) (h3 : ByL (tb.map (·.1) ++ u = u')) (h4 : ByL ((OpS.mk fp x tb).nm = a)) (h : regW P cx ops draw n0 rest (i + 1) env' box' u' (a :: acc) K) :
    regK P cx ops draw n0 rest i env box u acc K dst ⟨fp, x, tb⟩   := rk_all rfl hb h1 h2 h3 h4 h
theorem An {tb : List (Nat × Option Bx)} {env' : Env} {box' : Boxes} {u' : List Nat} {a : List Nat × List Nat} (hb : ByK ((tb.all (fun p => Nat.blt p.1 (n0 + 8 * i + 8))) = true)) (hs : tb.all (fun p => p.2.isNone) = true) (h1 : ByL (econs dst (.iff g x) env = env')) (h2 : ByL (tb ++ box = box')) (h3 : ByL (tb.map (·.1) ++ u = u')) (h4 : ByL ((OpS.mk fp x tb).nm = a))
    (h : regW P cx ops draw n0 rest (i + 1) env' box' u' (a :: acc) K) : regG P cx ops draw n0 rest i env box u acc K g dst ⟨fp, x, tb⟩   := rg_k rfl hb hs h1 h2 h3 h4 h
theorem Ao {tb : List (Nat × Option Bx)} {env' : Env} {box' : Boxes} {u' : List Nat} {a r : List Nat × List Nat} (hb : ByK ((tb.all (fun p => Nat.blt p.1 (n0 + 8 * i + 8))) = true)) (hs : tb.all (fun p => p.2.isNone) = false) (h1 : ByL (econs dst x env = env')) (h2 : ByL (tb ++ box = box')) (h3 : ByL (tb.map (·.1) ++ u = u')) (h4 : ByL ((OpS.mk fp x tb).nm = a)) (h5 : ByL (((OpS.mk fp x tb).reads, ([] : List Nat)) = r))
    (ht : ByG (g = true → regW P cx ops draw n0 rest (i + 1) env' box' u' (a :: acc) K)) (hf : ByG (g = false → regW P cx ops draw n0 rest (i + 1) (econs dst (.iff false x) env) box u (r :: acc) K)) :
    regG P cx ops draw n0 rest i env box u acc K g dst ⟨fp, x, tb⟩   := rg_w rfl hb hs h1 h2 h3 h4 h5 ht hf
theorem Ap (h : ByN (NapOK ops acc)) (hK : K env box) : regW P cx ops true n0 [] i env box u acc K := rs_nil h hK
theorem Aq {p q : Prop} (h : ByK p) (h2 : q) : ByK p ∧ q := ⟨h, h2⟩
theorem Ar {p q : Prop} (h : ByK p) (h2 : q) : q ∧ ByK p := ⟨h2, h⟩
theorem As {y : Operand} {args : Array Operand} {ats : Array TypeId} {f : FuncId} {l : List AV} (hy : ByE (callR env ⟨.value y, args, ats⟩ = some (f, l)))
    (hK : CallW P cx True env box (n0 + 8 * i) f l { dst := dst, op := .call ⟨.value y, args, ats⟩, type := ty, pos := pos, after := after, guard := none } (regK P cx ops draw n0 rest i env box u acc K dst)) (hc : ByE (cndsOK True env (callOps ⟨.value y, args, ats⟩))) :
    regW P cx ops draw n0 ({ dst := dst, op := .call ⟨.value y, args, ats⟩, type := ty, pos := pos, after := after, guard := none } :: rest) i env box u acc K := rs_c rfl hy hK hc
theorem At {jj : Nat} {want : Bool} {y : Operand} {args : Array Operand} {ats : Array TypeId} {f : FuncId} {l : List AV} (hy : ByE (callR env ⟨.value y, args, ats⟩ = some (f, l)))
    (hK : CallW P cx (g = true) env box (n0 + 8 * i) f l { dst := dst, op := .call ⟨.value y, args, ats⟩, type := ty, pos := pos, after := after, guard := some (jj, want) } (regG P cx ops draw n0 rest i env box u acc K g dst)) (hc : ByE (cndsOK (g = true) env (callOps ⟨.value y, args, ats⟩))) :
    GdW P cx ops draw n0 { dst := dst, op := .call ⟨.value y, args, ats⟩, type := ty, pos := pos, after := after, guard := some (jj, want) } rest i env box u acc K jj want d g := gd_c rfl hy hK hc
theorem Au (hy : ByE (opR P True env box (n0 + 8 * i) op = some (S, c))) (hK : regK P cx ops draw n0 rest i env box u acc K dst S) (hc : c) :
    regW P cx ops draw n0 ({ dst := dst, op := op, type := ty, pos := pos, after := after, guard := none } :: rest) i env box u acc K := rs_o rfl hy hK hc
theorem Av {op : Op} {jj : Nat} {want : Bool} (hd : ByH (dstOf ops jj = some d)) (hy : ByE (guardOf env want d = some g)) (h : GdW P cx ops draw n0 { dst := dst, op := op, type := ty, pos := pos, after := after, guard := some (jj, want) } rest i env box u acc K jj want d g) :
    regW P cx ops draw n0 ({ dst := dst, op := op, type := ty, pos := pos, after := after, guard := some (jj, want) } :: rest) i env box u acc K := rs_gd hd hy h
theorem Aw {jj : Nat} {want : Bool} (hy : ByE (opR P (g = true) env box (n0 + 8 * i) op = some (S, c))) (hK : regG P cx ops draw n0 rest i env box u acc K g dst S) (hc : c) :
    GdW P cx ops draw n0 { dst := dst, op := op, type := ty, pos := pos, after := after, guard := some (jj, want) } rest i env box u acc K jj want d g := gd_u rfl hy hK hc
theorem Ax {y : Operand} (hy : ByE (oeval env y = x)) (h : CndW P cx a b Q env box n x) : W P cx (.cond y a b) Q ⟨env, box, n⟩ := w_c hy h
theorem Ay {l : List Oper} {id : Nat} (hm : ByL (n + 1000 = m)) (hs : ByK (Nat.ble (8 * l.length) 1000 = true)) (h : ByI (∀ K : Env → Boxes → Prop, (∀ env box, Q .normal ⟨env, box, m⟩ → K env box) → regW P cx l.toArray draw n l 0 env box [] [] K)) : W P cx (.region id l.toArray draw) Q ⟨env, box, n⟩ := w_region hm hs h
theorem Az {t : Bool} (h1 : ByQ (t = true → W P cx a Q ⟨env, box, n⟩)) (h2 : ByQ (t = false → W P cx b Q ⟨env, box, n⟩)) : CndW P cx a b Q env box n (.v (.bool t)) := cw_c h1 h2
theorem Ba {p : Prop} (h1 : ByQ (p → W P cx a Q ⟨env, box, n⟩)) (h2 : W P cx b Q ⟨env, box, n⟩) : CndW P cx a b Q env box n (.bit p) := cw_b h1 h2
theorem Bb {rs : Array ResultVar} {l : List ResultVar} (hr : ByR (rs = l.toArray)) (h : ByE (LEndsL P l x A)) : LEnds P rs x .ret A := ends_r hr h
theorem Bc {rs : Array ResultVar} {l : List ResultVar} (hr : ByR (rs = l.toArray)) (h : ByE (LEndsL P l x A)) : LEnds P rs x .normal A := ends_n hr h
theorem Bd {rs : Array ResultVar} {fp : List (Nat × Bx)} {tb : List (Nat × Option Bx)} {l : List ResultVar} (hr : ByR (rs = l.toArray)) (h : ByE (LEndsBL P l fp x tb A)) : LEndsB P rs fp x tb .ret A := endsB_r hr h
theorem Be {rs : Array ResultVar} {fp : List (Nat × Bx)} {tb : List (Nat × Option Bx)} {l : List ResultVar} (hr : ByR (rs = l.toArray)) (h : ByE (LEndsBL P l fp x tb A)) : LEndsB P rs fp x tb .normal A := endsB_n hr h
theorem Bf {id id' : Nat} (hne : ByR (Nat.beq id' id = false)) (h : Q (.exit id') A) : linBlock id Q (.exit id') A := lb_m hne h
section
variable {id l : Nat} {next : LS → Prop}
theorem Ca (h : W P cx a Q ⟨env, box, n⟩) : CndW P cx a b Q env box n (.v (.bool true)) := cw_t h
theorem Cb (h : W P cx b Q ⟨env, box, n⟩) : CndW P cx a b Q env box n (.v (.bool false)) := cw_f h
theorem Cc (hK : K env box) : regW P cx ops false n0 [] i env box u acc K := rs_nil_f hK
theorem Cd (h : next A) : lthen next Q .normal A := h
theorem Ce (h : Q .ret A) : lthen next Q .ret A := h
theorem Cf (h : Q (.exit id) A) : lthen next Q (.exit id) A := h
theorem Cg (h : Q .normal A) : linBlock id Q .normal A := h
theorem Ch (h : Q .ret A) : linBlock id Q .ret A := h
theorem Ci (h : Q .normal A) : linBlock id Q (.exit id) A := lb_e h
theorem Cj (h : Q .normal A) : W P cx .skip Q A := h
theorem Ck (h : Q .normal A) : W P cx (.label l) Q A := h
theorem Cl (h : Q .ret A) : W P cx .ret Q A := h
theorem Cm (h : Q (.exit id) A) : W P cx (.exit id) Q A := h
theorem Cn (h : W P cx a (lthen (fun A => W P cx b Q A) Q) A) : W P cx (.seq a b) Q A := h
theorem Co (h : W P cx a (linBlock id Q) A) : W P cx (.block id a) Q A := h
theorem Cp (h : LoopW P cx a Q A) : W P cx (.loop a) Q A := h
end
attribute [go_sem] List.getD_cons_zero List.getD_cons_succ
end Go.Proofs.YtkonljmmdifnaaaGreat.V
set_option linter.unusedSimpArgs false
set_option linter.unusedVariables false
namespace Go.Proofs.YtkonljmmdifnaaaGreat.V
open Go.RowKit
variable {P : Program} {cx : Cx} {c : Code} {Q : Exit → LS → Prop} {A : LS}

theorem nil_osl {ι : Nat → Option Nat} {M : Nat → Prop} {w : World} {v : Value} (b k off : Nat) (h : RepA ι M w v (.v (.slice none 0 0))) : RepA ι M w v (.osl b k off 0) := by
  rw [h.ofV]; exact .osl0 _ _ _ _

theorem sat_nil {ι : Nat → Option Nat} {a : Go.Act} {w : World} {env : Env} {box : Boxes} {n : Nat} (tm b k : Nat) (ty : TypeId) (h0 : eget env tm = .v (.slice none 0 0)) (hb : n ≤ b) (hs : Sat cx ι (mkAS env box n []) a w) :
    Sat cx ι (mkAS ((tm, .osl b k 0 0) :: env) ((b, some ⟨ty, []⟩) :: box) (b + 1) []) a w := by
  have hnu : ¬ (mkAS env box n []).used b := by simp [mkAS]; omega
  have hι : ι b = none := by
    cases h : ι b with
    | none => rfl
    | some g => exact absurd (hs.h.dom b g h).1 hnu
  have hM : ∀ g, Mof cx ι (bget ((b, some ⟨ty, []⟩) :: box)) g → Mof cx ι (bget box) g := by
    rintro g (h | ⟨i, x, h1, h2⟩)
    · exact .inl h
    · rw [bget_cons] at h1
      split at h1
      · rename_i he; subst he; rw [hι] at h2; cases h2
      · exact .inr ⟨i, x, h1, h2⟩
  refine ⟨⟨hs.h.wi, hs.h.m0, hs.h.fix, fun i g h => ⟨?_, (hs.h.dom i g h).2⟩, fun i x h => ?_, fun i x h => ?_, fun i i' x x' g h1 h2 h3 h4 => ?_⟩, hs.size, hs.defers, fun t => ?_⟩
  · have := (hs.h.dom i g h).1
    simp [mkAS] at this ⊢
    omega
  · have h : bget ((b, some ⟨ty, []⟩) :: box) i = some x := h
    rw [bget_cons] at h
    split at h
    · rename_i he; subst he; simp [mkAS]
    · have := hs.h.ub i x h
      simp [mkAS] at this ⊢
      omega
  · have h' : bget ((b, some ⟨ty, []⟩) :: box) i = some x := h
    rw [bget_cons] at h'
    by_cases he : i = b
    · subst he
      rw [if_pos rfl] at h'
      injection h' with h'
      subst h'
      exact .inl ⟨rfl, hι⟩
    · rw [if_neg he] at h'
      rcases hs.h.own i x h' with h1 | ⟨g, h1, h2, h3, c, h4, h5, h6⟩
      · exact .inl h1
      · exact .inr ⟨g, h1, h2, h3, c, h4, h5, fun j v y hv hy => ⟨(h6 j v y hv hy).1, (h6 j v y hv hy).2.less hM⟩⟩
  · have h1 : bget ((b, some ⟨ty, []⟩) :: box) i = some x := h1
    have h2 : bget ((b, some ⟨ty, []⟩) :: box) i' = some x' := h2
    rw [bget_cons] at h1 h2
    split at h1
    · rename_i he; subst he; rw [hι] at h3; cases h3
    · split at h2
      · rename_i he; subst he; rw [hι] at h4; cases h4
      · exact hs.h.inj i i' x x' g h1 h2 h3 h4
  · show RepA ι (Mof cx ι (bget ((b, some ⟨ty, []⟩) :: box))) w _ (eget ((tm, .osl b k 0 0) :: env) t)
    rw [eget_cons]
    have he := (hs.env t).less hM
    split
    · rename_i ht
      subst ht
      have he : RepA ι (Mof cx ι (bget ((b, some ⟨ty, []⟩) :: box))) w _ (eget env t) := he
      rw [h0] at he
      exact nil_osl b k 0 he
    · exact he

/-- At a loop's head a nil slice may be taken for an empty slice of the call's own, of a new name. -/
theorem loop_nil (tm b k : Nat) (ty : TypeId) (h0 : eget A.env tm = .v (.slice none 0 0)) (hb : A.next ≤ b) (h : LoopW P cx c Q ⟨(tm, .osl b k 0 0) :: A.env, (b, some ⟨ty, []⟩) :: A.box, b + 1⟩) : LoopW P cx c Q A :=
  fun ι a w hs => h ι a w (sat_nil tm b k ty h0 hb hs)
/-- A loop of a few rounds, round by round. -/
def Rounds (P : Program) (cx : Cx) (c : Code) (Q : Exit → LS → Prop) : Nat → LS → Prop
  | 0, _ => False
  | m + 1, A => W P cx c (lthen (Rounds P cx c Q m) Q) A

theorem rounds_s {P : Program} {cx : Cx} {c : Code} {Q : Exit → LS → Prop} {m : Nat} {A : LS} (h : W P cx c (lthen (Rounds P cx c Q m) Q) A) : Rounds P cx c Q (m + 1) A := h

theorem loop_rounds {P : Program} {cx : Cx} {c : Code} {Q : Exit → LS → Prop} {A : LS} (hm : P.follows .mixedOrders = true) (m : Nat) (hok : bodyOK cx.N c = true) (h : Rounds P cx c Q m A) : LoopW P cx c Q A := by
  intro ι a w hs
  refine wpIn_loop_rounds m ?_
  have key : ∀ (m : Nat) (A : LS) (ι : Nat → Option Nat) (a : Go.Act) (w : World), Rounds P cx c Q m A → Sat cx ι A.toAS a w → Code.roundsIn (fen cx.R) 9 P c (fun e a' w' => ∃ ι' A', Sat cx ι' A' a' w' ∧ lift Q e A') m a w := by
    intro m
    induction m with
    | zero => intro A ι a w h; exact h.elim
    | succ m ih =>
      intro A ι a w h hs
      refine wpIn_mono (W_sound hm c _ A hok h ι a w hs) ?_
      rintro e a' w' ⟨ι', A', h1, L, rfl, hL⟩
      cases e with
      | normal => exact ih L ι' a' w' hL h1
      | _ => exact ⟨ι', L.toAS, h1, L, rfl, hL⟩
  exact key m A ι a w h hs

end Go.Proofs.YtkonljmmdifnaaaGreat.V
namespace Go.Proofs.YtkonljmmdifnaaaGreat.V
open Go.RowKit
variable {P : Program} {cx : Cx} {c a b : Code} {Q : Exit → LS → Prop} {A : LS}

theorem code_w (hm : P.follows .mixedOrders = true) (hok : bodyOK cx.N c = true) (h : W P cx c Q A) : CodeW P cx c Q A := W_sound hm c Q A hok h

theorem code_seq (hm : P.follows .mixedOrders = true) (hok : bodyOK cx.N a = true) (h : W P cx a (lthen (fun A => CodeW P cx b Q A) Q) A) : CodeW P cx (.seq a b) Q A := by
  refine awp_seq ((W_sound hm a _ A hok h).mono ?_)
  rintro e A' ⟨L, rfl, hL⟩
  cases e with
  | normal => exact hL
  | _ => exact ⟨L, rfl, hL⟩

theorem fun_C {f : FuncId} {fn : Func} {c : Code} {args : List AV} {x : AV} (hf : P.funcs[f]? = some fn) (hb : fn.body = some c) (hn : args.length ≤ fn.ntmps)
    (h : ∀ cx : Cx, cx.N = fn.ntmps → cx.R = none → cx.F = (fun _ => none) → args.all AV.lens = true → CodeW P cx c (LEnds P fn.results x) ⟨argsL args 0, [], 0⟩) : Fun P f args x := by
  refine fun_of hf hb hn fun cx hN hR hF hL => ?_
  have := h cx hN hR hF hL
  have he : (⟨argsEnv args, fun _ => none, fun _ => False⟩ : AS) = LS.toAS ⟨argsL args 0, [], 0⟩ := by
    unfold LS.toAS mkAS
    congr 1
    · funext t
      rw [eget_argsL]
      simp [argsEnv]
    · funext b
      simp
  rw [he]
  refine AWp.mono this ?_
  rintro e A ⟨L, rfl, hL⟩
  cases e with
  | normal => exact LEnds_sound hL
  | ret => exact LEnds_sound hL
  | _ => exact hL.elim

/-! ### Plain from here on -/

def fzY (pb : Boxes) (y x : AV) : Prop := y = x ∨ fz pb 6 y x
def fzE (pb : Boxes) (env : Env) : Env → Prop
  | [] => True
  | (t, x) :: l => fzY pb (eget env t) x ∧ fzE pb env l
def fzL (pb : Boxes) : List AV → List AV → Prop
  | [], [] => True
  | y :: l, x :: m => fzY pb y x ∧ fzL pb l m
  | _, _ => False
def fzB (ns : List Nat) (pb box : Boxes) : Boxes → Prop
  | [] => True
  | (b, some x) :: l => (ns.contains b = false ∧ match bget box b with | some y => y.t = x.t ∧ fzL pb y.cs x.cs | none => False) ∧ fzB ns pb box l
  | (_, none) :: l => fzB ns pb box l

theorem fzL_spec {pb : Boxes} : ∀ {l m : List AV}, fzL pb l m → l.length = m.length ∧ ∀ (i : Nat) (x y : AV), l[i]? = some x → m[i]? = some y → fzY pb x y
  | [], [], _ => ⟨rfl, by simp⟩
  | x :: l, y :: m, h => by
    obtain ⟨h1, h2⟩ := fzL_spec h.2
    refine ⟨by simp [h1], fun i a b ha hb => ?_⟩
    rcases i with _ | i
    · simp at ha hb; subst ha hb; exact h.1
    · exact h2 i a b (by simpa using ha) (by simpa using hb)

theorem fzE_spec {pb : Boxes} {env : Env} : ∀ {l : Env}, fzE pb env l → ∀ t, eget l t = .any ∨ fzY pb (eget env t) (eget l t)
  | [], _, t => .inl rfl
  | (s, x) :: l, h, t => by
    simp only [eget]
    split
    · rename_i ht; subst ht; exact .inr h.1
    · exact fzE_spec h.2 t

theorem fzB_spec {ns : List Nat} {pb box : Boxes} : ∀ {l : Boxes}, fzB ns pb box l → ∀ b x, bget l b = some x → ns.contains b = false ∧ ∃ y, bget box b = some y ∧ y.t = x.t ∧ fzL pb y.cs x.cs
  | [], _, b, x, h => by simp [bget, bput] at h
  | (c, some z) :: l, h, b, x, hx => by
    rw [bget_cons] at hx
    split at hx
    · rename_i hb
      subst hb
      injection hx with hx
      subst hx
      refine ⟨h.1.1, ?_⟩
      have h2 := h.1.2
      split at h2
      · rename_i y hy; exact ⟨y, hy, h2⟩
      · exact h2.elim
    · exact fzB_spec h.2 b x hx
  | (c, none) :: l, h, b, x, hx => by
    rw [bget_cons] at hx
    split at hx
    · cases hx
    · exact fzB_spec (l := l) h b x hx

theorem mem_pickB {box : Boxes} {b : Nat} {r : Option Bx} : ∀ {ns : List Nat}, (b, r) ∈ pickB box ns → b ∈ ns
  | [], h => by simp [pickB] at h
  | c :: l, h => by
    rcases List.mem_cons.1 h with h | h
    · injection h with h1 h2; subst h1; simp
    · exact List.mem_cons_of_mem _ (mem_pickB h)

theorem mem_liveOf {pb : Boxes} {b : Nat} {x : Bx} : ∀ {l : Boxes}, (b, x) ∈ liveOf pb l → ∃ r, (b, r) ∈ l
  | [], h => by simp [liveOf] at h
  | (c, r) :: l, h => by
    unfold liveOf at h
    split at h
    · rcases List.mem_cons.1 h with h | h
      · injection h with h1 h2; subst h1; exact ⟨r, by simp⟩
      · obtain ⟨r', h'⟩ := mem_liveOf h; exact ⟨r', by simp [h']⟩
    · obtain ⟨r', h'⟩ := mem_liveOf h; exact ⟨r', by simp [h']⟩

theorem sat_frz {ι : Nat → Option Nat} {a : Go.Act} {w : World} {env env' : Env} {box box' pb : Boxes} {n : Nat} (ns : List Nat) (hp : pickB box ns = pb) (he : fzE pb env env') (hb : fzB ns pb box box') (hs : Sat cx ι (mkAS env box n []) a w) : Sat cx ι (mkAS env' box' n []) a w := by
  subst hp
  have hfp : ∀ b x, (b, x) ∈ liveOf (pickB box ns) (pickB box ns) → (mkAS env box n []).box b = some x := fun b x h => bget_pickB (liveOf_spec h)
  have hns : ∀ b x, (b, x) ∈ liveOf (pickB box ns) (pickB box ns) → ns.contains b = true := fun b x h => by
    obtain ⟨r, hr⟩ := mem_liveOf h
    simpa using mem_pickB hr
  have hkeep : ∀ b x, bget box' b = some x → ∃ y, bput (bget box) (kills (liveOf (pickB box ns) (pickB box ns))) b = some y := fun b x h => by
    obtain ⟨h1, y, h2, -⟩ := fzB_spec hb b x h
    refine ⟨y, ?_⟩
    have key : ∀ fp : List (Nat × Bx), (∀ x, (b, x) ∉ fp) → bput (bget box) (kills fp) b = bget box b := by
      intro fp
      induction fp with
      | nil => intro _; rfl
      | cons p fp ih =>
        intro hq
        simp only [kills, List.map_cons, bput]
        rw [if_neg (by rintro rfl; exact hq p.2 (by simp))]
        exact ih fun x hx => hq x (by simp [hx])
    rw [key _ fun x hx => by have := hns b x hx; rw [h1] at this; cases this]
    exact h2
  have hM : ∀ g, Mof cx ι (bget box') g → Mof cx ι (bput (bget box) (kills (liveOf (pickB box ns) (pickB box ns)))) g := by
    rintro g (h | ⟨i, x, h1, h2⟩)
    · exact .inl h
    · obtain ⟨y, hy⟩ := hkeep i x h1
      exact .inr ⟨i, y, hy, h2⟩
  have hM2 : ∀ g, Mof cx ι (bget box') g → Mof cx ι (bget box) g := by
    rintro g (h | ⟨i, x, h1, h2⟩)
    · exact .inl h
    · obtain ⟨-, y, hy, -⟩ := fzB_spec hb i x h1
      exact .inr ⟨i, y, hy, h2⟩
  have hval : ∀ (v : Value) (y x : AV), fzY (pickB box ns) y x → RepA ι (Mof cx ι (bget box)) w v y → RepA ι (Mof cx ι (bget box')) w v x := by
    intro v y x hf hv
    rcases hf with rfl | hf
    · exact hv.less hM2
    · have h1 := frz_rep hs.h hfp (fz_sound _ hf) hv
      exact .d (h1.keep (fun g _ h => hM g h) (Nat.le_refl _) (fun _ _ _ => rfl))
  refine ⟨⟨hs.h.wi, hs.h.m0, hs.h.fix, hs.h.dom, fun i x h => ?_, fun i x h => ?_, fun i i' x x' g h1 h2 h3 h4 => ?_⟩, hs.size, hs.defers, fun t => ?_⟩
  · obtain ⟨-, y, hy, -⟩ := fzB_spec hb i x h
    exact hs.h.ub i y hy
  · obtain ⟨-, y, hy, hty, hcs⟩ := fzB_spec hb i x h
    obtain ⟨hl, hc⟩ := fzL_spec hcs
    rcases hs.h.own i y hy with ⟨h1, h2⟩ | ⟨g, h1, h2, h3, cc, h4, h5, h6⟩
    · exact .inl ⟨List.eq_nil_of_length_eq_zero (by rw [← hl, h1]; rfl), h2⟩
    · refine .inr ⟨g, h1, h2, h3, cc, by rw [← hty]; exact h4, by rw [← hl]; exact h5, fun j v z hv hz => ?_⟩
      have hj : j < y.cs.length := by rw [hl]; exact (List.getElem?_eq_some_iff.1 hz).1
      have := h6 j v _ hv (List.getElem?_eq_getElem hj)
      exact ⟨this.1, hval v _ z (hc j _ z (List.getElem?_eq_getElem hj) hz) this.2⟩
  · obtain ⟨-, y, hy, -⟩ := fzB_spec hb i x h1
    obtain ⟨-, y', hy', -⟩ := fzB_spec hb i' x' h2
    exact hs.h.inj i i' y y' g hy hy' h3 h4
  · rcases fzE_spec he t with h | h
    · show RepA ι _ w _ (eget env' t)
      rw [h]; exact .any _
    · exact hval _ _ _ h (hs.env t)

/-- From here on the boxes ns are plain data. -/
theorem code_frz {env env' : Env} {box box' pb : Boxes} {n : Nat} (ns : List Nat) (env' : Env) (box' : Boxes) (hp : pickB box ns = pb) (he : fzE pb env env') (hb : fzB ns pb box box') (h : CodeW P cx c Q ⟨env', box', n⟩) : CodeW P cx c Q ⟨env, box, n⟩ :=
  fun ι a w hs => h ι a w (sat_frz ns hp he hb hs)
theorem loop_frz {env : Env} {box pb : Boxes} {n : Nat} (ns : List Nat) (env' : Env) (box' : Boxes) (hp : pickB box ns = pb) (he : fzE pb env env') (hb : fzB ns pb box box') (h : LoopW P cx c Q ⟨env', box', n⟩) : LoopW P cx c Q ⟨env, box, n⟩ :=
  fun ι a w hs => h ι a w (sat_frz ns hp he hb hs)

attribute [go_sem] fzY fzE fzL fzB List.contains_cons List.contains_nil
end Go.Proofs.YtkonljmmdifnaaaGreat.V
set_option linter.unusedSimpArgs false
set_option linter.unusedVariables false
namespace Go.Proofs.YtkonljmmdifnaaaGreat.V
open Go.RowKit
structure Lv (A B : Prop) : Prop where
  a : A
  b : B
structure Lf (A : Prop) : Prop where
  a : A
structure HK (p : Prop) : Prop where
  a : p
theorem bK {p : Prop} (h : HK p) : p := h.a
theorem oK {p : Prop} (h : p) : HK p := ⟨h⟩
/-- Several equations as one. -/
theorem I {A B : Prop} (a : A) (b : B) : A ∧ B := ⟨a, b⟩
theorem run {G H X : Prop} (hx : X) (k : H) (h : X → H → G := by
    intro hx hZ
    try (with_reducible apply oK; intro K hK)
    with_reducible ((first|exact trivial|(apply byE;simp only [go_sem, ↓reduceIte, hx];try rfl)|apply Aa|apply As|apply Au|apply Av|apply Aj|apply At|apply Aw|apply Ab|apply Ac|apply Ad|apply Ae|apply Af|apply Ag|apply Ah|apply Ai|apply Ak|apply Al|((first|apply An|apply Ao);(case hs=>with_unfolding_all rfl))|apply Am|apply Ap|apply Aq|apply Ar|apply Ax|apply Ay|apply Az|apply Ba|apply Bb|apply Bc|apply Bd|apply Be|apply Ca|apply Cb|apply Cc|apply Cd|apply Ce|apply Cf|apply Cg|apply Ch|apply Ci|apply Bf|apply Cj|apply Ck|apply Cl|apply Cm|apply Cn|apply Co|apply Cp|(apply byR;with_unfolding_all rfl)|((first|apply byKt|apply byKs);kernel_rfl)|(apply byL;simp only [econs,List.map_cons,List.map_nil,List.cons_append,List.nil_append,OpS.nm,OpS.reads,OpS.turns,Nat.reduceAdd];try with_unfolding_all rfl)|(apply byG;intro hg;try simp only [hg])|(apply byQ;intro hq;try simp only [hqs] at hq;try (exfalso;clear hZ;omega))|(apply byI;intro K hK)|(apply byH;repeat (first|exact dst_z rfl|apply dst_s))|(apply byN;unfold NapOK;kernel_rfl)|(apply byD;first|(simp;done)|(simp [go_sem];done))|(refine hK _ _ ?_;clear hK;clear K)|(clear hZ;omega)|(exfalso;clear hZ;first|contradiction|omega));repeat' (first|exact trivial|(apply byE;simp only [go_sem, ↓reduceIte, hx];try rfl)|apply Aa|apply As|apply Au|apply Av|apply Aj|apply At|apply Aw|apply Ab|apply Ac|apply Ad|apply Ae|apply Af|apply Ag|apply Ah|apply Ai|apply Ak|apply Al|((first|apply An|apply Ao);(case hs=>with_unfolding_all rfl))|apply Am|apply Ap|apply Aq|apply Ar|apply Ax|apply Ay|apply Az|apply Ba|apply Bb|apply Bc|apply Bd|apply Be|apply Ca|apply Cb|apply Cc|apply Cd|apply Ce|apply Cf|apply Cg|apply Ch|apply Ci|apply Bf|apply Cj|apply Ck|apply Cl|apply Cm|apply Cn|apply Co|apply Cp|(apply byR;with_unfolding_all rfl)|((first|apply byKt|apply byKs);kernel_rfl)|(apply byL;simp only [econs,List.map_cons,List.map_nil,List.cons_append,List.nil_append,OpS.nm,OpS.reads,OpS.turns,Nat.reduceAdd];try with_unfolding_all rfl)|(apply byG;intro hg;try simp only [hg])|(apply byQ;intro hq;try simp only [hqs] at hq;try (exfalso;clear hZ;omega))|(apply byI;intro K hK)|(apply byH;repeat (first|exact dst_z rfl|apply dst_s))|(apply byN;unfold NapOK;kernel_rfl)|(apply byD;first|(simp;done)|(simp [go_sem];done))|(refine hK _ _ ?_;clear hK;clear K)|(clear hZ;omega)|(exfalso;clear hZ;first|contradiction|omega)))
    all_goals (refine Lf.a ?_; (try (revert K; have hW := hZ; clear hW; refine bK ?_)); (repeat (first | (revert hq; have hW := hZ; clear hW) | (revert hg; have hW := hZ; clear hW))); (repeat (rcases hZ with ⟨-, hZ⟩)); refine' Lv.a hZ)
    all_goals (first | exact True | skip)) : G := h hx k
theorem callZ {P : Program} {cx : Cx} {env : Env} {box : Boxes} {nm : Nat} {o : Oper} {K : OpS → Prop} {x : AV} {hyp : Prop} {f : FuncId} {l xs : List AV} (hc : Callable P f) (hF : Fun P f xs x) (hK : K ⟨[], x, []⟩) (hd : ByD (xs.all AV.isData = true) := by (apply byD; first|(simp;done)|(simp [go_sem];done)))
    (hl : l = xs := by with_unfolding_all rfl) : CallW P cx hyp env box nm f l o K := callX hc hF hl hd hK
end Go.Proofs.YtkonljmmdifnaaaGreat.V
set_option linter.unusedSimpArgs false
set_option linter.unusedVariables false
namespace Go.Proofs.YtkonljmmdifnaaaGreat.V
open Go.RowKit

def Int64 (n : Int) : Prop := -9223372036854775808 ≤ n ∧ n ≤ 9223372036854775807

structure Cover where
  peril : Int
  limit : Int
  agg : Int
  ded : Int
  share : Int

def Cover.ok (c : Cover) : Prop := Int64 c.peril ∧ Int64 c.limit ∧ Int64 c.agg ∧ Int64 c.ded ∧ Int64 c.share
@[go_sem] def Cover.flat (c : Cover) : List AV := [int c.peril, int c.limit, int c.agg, int c.ded, int c.share]
abbrev covs (l : List Cover) : AV := .sl false 5 (l.map Cover.flat)

theorem Cover.len (c : Cover) : c.flat.length = 5 := rfl
theorem Cover.data (c : Cover) : c.flat.all AV.isData = true := by simp [Cover.flat]

structure Terms where
  from_ : Int
  to_ : Int
  kind : Int
  value : Int
  age : Int
  zone : Int
  covers : List Cover

def Terms.ok (t : Terms) : Prop := (Int64 t.from_ ∧ Int64 t.to_ ∧ Int64 t.kind ∧ Int64 t.value ∧ Int64 t.age ∧ Int64 t.zone) ∧ ∀ c, c ∈ t.covers → c.ok
@[go_sem] def Terms.flat (t : Terms) : List AV := [int t.from_, int t.to_, int t.kind, int t.value, int t.age, int t.zone, covs t.covers]

structure Change where
  booked : Int
  day : Int
  kind : Int
  rk : Int
  rv : Int
  ra : Int
  rz : Int
  covers : List Cover
  way : Int

def Change.ok (c : Change) : Prop := (Int64 c.booked ∧ Int64 c.day ∧ Int64 c.kind ∧ Int64 c.rk ∧ Int64 c.rv ∧ Int64 c.ra ∧ Int64 c.rz ∧ Int64 c.way) ∧ ∀ x, x ∈ c.covers → x.ok
@[go_sem] def Change.flat (c : Change) : List AV := [int c.booked, int c.day, int c.kind, int c.rk, int c.rv, int c.ra, int c.rz, covs c.covers, int c.way]
abbrev chgs (l : List Change) : AV := .sl false 9 (l.map Change.flat)

theorem Change.len (c : Change) : c.flat.length = 9 := rfl
theorem Change.data (c : Change) : c.flat.all AV.isData = true := by simp [Change.flat]

structure History where
  id : Int
  booked : Int
  terms : Terms
  changes : List Change

def History.ok (h : History) : Prop := (Int64 h.id ∧ Int64 h.booked) ∧ h.terms.ok ∧ ∀ c, c ∈ h.changes → c.ok
@[go_sem] def History.flat (h : History) : List AV := [int h.id, int h.booked, int h.terms.from_, int h.terms.to_, int h.terms.kind, int h.terms.value, int h.terms.age, int h.terms.zone, covs h.terms.covers, chgs h.changes]

structure Claim where
  id : Int
  policy : Int
  peril : Int
  loss : Int
  booked : Int
  event : Int
deriving DecidableEq

@[go_sem] def Claim.flat (c : Claim) : List AV := [int c.id, int c.policy, int c.peril, int c.loss, int c.booked, int c.event]

structure Act where
  booked : Int
  kind : Int
  amt : Int
deriving DecidableEq

@[go_sem] def Act.flat (a : Act) : List AV := [int a.booked, int a.kind, int a.amt]

structure Treaty where
  id : Int
  kind : Int
  from_ : Int
  to_ : Int
  bp : Int
  attach : Int
  width : Int
  again : Int
  perils : Int
deriving DecidableEq

@[go_sem] def Treaty.flat (t : Treaty) : List AV := [int t.id, int t.kind, int t.from_, int t.to_, int t.bp, int t.attach, int t.width, int t.again, int t.perils]

structure Fact where
  booked : Int
  kind : Int
  id : Int
  amt : Int
  day : Int
  terms : Terms
  change : Change
  claim : Claim
  act : Act
  treaty : Treaty

@[go_sem] def Fact.flat (f : Fact) : List AV := [int f.booked, int f.kind, int f.id, int f.amt, int f.day,
  int f.terms.from_, int f.terms.to_, int f.terms.kind, int f.terms.value, int f.terms.age, int f.terms.zone, covs f.terms.covers,
  int f.change.booked, int f.change.day, int f.change.kind, int f.change.rk, int f.change.rv, int f.change.ra, int f.change.rz, covs f.change.covers, int f.change.way,
  int f.claim.id, int f.claim.policy, int f.claim.peril, int f.claim.loss, int f.claim.booked, int f.claim.event,
  int f.act.booked, int f.act.kind, int f.act.amt,
  int f.treaty.id, int f.treaty.kind, int f.treaty.from_, int f.treaty.to_, int f.treaty.bp, int f.treaty.attach, int f.treaty.width, int f.treaty.again, int f.treaty.perils]
abbrev facts (l : List Fact) : AV := .sl false 39 (l.map Fact.flat)

theorem Fact.len (c : Fact) : c.flat.length = 39 := rfl
theorem Fact.data (c : Fact) : c.flat.all AV.isData = true := by simp [Fact.flat]

structure Band where
  upto : Int
  bp : Int
deriving DecidableEq
@[go_sem] def Band.flat (b : Band) : List AV := [int b.upto, int b.bp]
@[go_sem] def irow (n : Int) : List AV := [int n]
abbrev ints (l : List Int) : AV := .sl false 1 (l.map irow)

structure Version where
  from_ : Int
  b0 : Int
  b1 : Int
  b2 : Int
  b3 : Int
  age : List Band
  zone : List Int
  peril : List Int
  min : Int
deriving DecidableEq
@[go_sem] def Version.flat (v : Version) : List AV := [int v.from_, int v.b0, int v.b1, int v.b2, int v.b3, .sl false 2 (v.age.map Band.flat), ints v.zone, ints v.peril, int v.min]
abbrev vers (l : List Version) : AV := .sl false 9 (l.map Version.flat)

structure Journal where
  tariff : List Version
  facts : List Fact
@[go_sem] def Journal.flat (j : Journal) : List AV := [vers j.tariff, V.facts j.facts]


end Go.Proofs.YtkonljmmdifnaaaGreat.V
set_option linter.unusedSimpArgs false
set_option linter.unusedVariables false
namespace Go.Proofs.YtkonljmmdifnaaaGreat.V
open Go.RowKit

theorem run_eqGuard_agg {P : Program} {t : TypeId} {a b : Array Value} {x y : Operand} {w : World} (hg : P.eqGuardType P.depth t = false) : (eqGuard .eql t x y (.agg a) (.agg b)).run P w = .ok () w := by
  simp [eqGuard, hg]

set_option maxHeartbeats 1000000 in
set_option maxRecDepth 100000 in
@[go_sem] theorem eqIntsSpan : EqInts Tryz.prog 23 2 := by
  intro xs ys hx hy w
  obtain ⟨x0, xs, rfl⟩ := List.exists_cons_of_length_pos (l := xs) (by omega)
  simp only [List.length_cons] at hx
  obtain ⟨x1, xs, rfl⟩ := List.exists_cons_of_length_pos (l := xs) (by omega)
  simp only [List.length_cons] at hx
  obtain rfl : xs = [] := List.eq_nil_of_length_eq_zero (by omega)
  obtain ⟨y0, ys, rfl⟩ := List.exists_cons_of_length_pos (l := ys) (by omega)
  simp only [List.length_cons] at hy
  obtain ⟨y1, ys, rfl⟩ := List.exists_cons_of_length_pos (l := ys) (by omega)
  simp only [List.length_cons] at hy
  obtain rfl : ys = [] := List.eq_nil_of_length_eq_zero (by omega)
  clear hx hy
  have hS : Tryz.prog.underlying 23 = some (.struct (Tryz.prog.fieldsOf 23)) := by kernel_rfl
  have hp : Tryz.prog.stoodInHeld 23 = false := by kernel_rfl
  have hg : Tryz.prog.eqGuardType Tryz.prog.depth 23 = false := by kernel_rfl
  rw [Sem.run_bind, run_eqGuard_agg hg, Result.andThen_ok]
  refine (?_ : ∀ d, (Op.equalIn (d + 2 + 1) 23 _ _).run Tryz.prog w = _) 9997
  intro d
  rw [run_equalIn_agg w (d + 2) 23 _ _ hS hp]
  clear hS hp hg
  simp only [Program.fieldsOf, Tryz.underlying23, List.map_cons, List.map_nil]
  go_simp
  by_cases h0 : x0 = y0
  rotate_left
  · simp [h0]
  by_cases h1 : x1 = y1
  rotate_left
  · simp [h1]
  simp [h0, h1]

set_option maxHeartbeats 1000000 in
set_option maxRecDepth 100000 in
@[go_sem] theorem eqIntsRisk : EqInts Tryz.prog 25 4 := by
  intro xs ys hx hy w
  obtain ⟨x0, xs, rfl⟩ := List.exists_cons_of_length_pos (l := xs) (by omega)
  simp only [List.length_cons] at hx
  obtain ⟨x1, xs, rfl⟩ := List.exists_cons_of_length_pos (l := xs) (by omega)
  simp only [List.length_cons] at hx
  obtain ⟨x2, xs, rfl⟩ := List.exists_cons_of_length_pos (l := xs) (by omega)
  simp only [List.length_cons] at hx
  obtain ⟨x3, xs, rfl⟩ := List.exists_cons_of_length_pos (l := xs) (by omega)
  simp only [List.length_cons] at hx
  obtain rfl : xs = [] := List.eq_nil_of_length_eq_zero (by omega)
  obtain ⟨y0, ys, rfl⟩ := List.exists_cons_of_length_pos (l := ys) (by omega)
  simp only [List.length_cons] at hy
  obtain ⟨y1, ys, rfl⟩ := List.exists_cons_of_length_pos (l := ys) (by omega)
  simp only [List.length_cons] at hy
  obtain ⟨y2, ys, rfl⟩ := List.exists_cons_of_length_pos (l := ys) (by omega)
  simp only [List.length_cons] at hy
  obtain ⟨y3, ys, rfl⟩ := List.exists_cons_of_length_pos (l := ys) (by omega)
  simp only [List.length_cons] at hy
  obtain rfl : ys = [] := List.eq_nil_of_length_eq_zero (by omega)
  clear hx hy
  have hS : Tryz.prog.underlying 25 = some (.struct (Tryz.prog.fieldsOf 25)) := by kernel_rfl
  have hp : Tryz.prog.stoodInHeld 25 = false := by kernel_rfl
  have hg : Tryz.prog.eqGuardType Tryz.prog.depth 25 = false := by kernel_rfl
  rw [Sem.run_bind, run_eqGuard_agg hg, Result.andThen_ok]
  refine (?_ : ∀ d, (Op.equalIn (d + 2 + 1) 25 _ _).run Tryz.prog w = _) 9997
  intro d
  rw [run_equalIn_agg w (d + 2) 25 _ _ hS hp]
  clear hS hp hg
  simp only [Program.fieldsOf, Tryz.underlying25, List.map_cons, List.map_nil]
  go_simp
  by_cases h0 : x0 = y0
  rotate_left
  · simp [h0]
  by_cases h1 : x1 = y1
  rotate_left
  · simp [h1]
  by_cases h2 : x2 = y2
  rotate_left
  · simp [h2]
  by_cases h3 : x3 = y3
  rotate_left
  · simp [h3]
  simp [h0, h1, h2, h3]

set_option maxHeartbeats 1000000 in
set_option maxRecDepth 100000 in
@[go_sem] theorem eqIntsCover : EqInts Tryz.prog 90 5 := by
  intro xs ys hx hy w
  obtain ⟨x0, xs, rfl⟩ := List.exists_cons_of_length_pos (l := xs) (by omega)
  simp only [List.length_cons] at hx
  obtain ⟨x1, xs, rfl⟩ := List.exists_cons_of_length_pos (l := xs) (by omega)
  simp only [List.length_cons] at hx
  obtain ⟨x2, xs, rfl⟩ := List.exists_cons_of_length_pos (l := xs) (by omega)
  simp only [List.length_cons] at hx
  obtain ⟨x3, xs, rfl⟩ := List.exists_cons_of_length_pos (l := xs) (by omega)
  simp only [List.length_cons] at hx
  obtain ⟨x4, xs, rfl⟩ := List.exists_cons_of_length_pos (l := xs) (by omega)
  simp only [List.length_cons] at hx
  obtain rfl : xs = [] := List.eq_nil_of_length_eq_zero (by omega)
  obtain ⟨y0, ys, rfl⟩ := List.exists_cons_of_length_pos (l := ys) (by omega)
  simp only [List.length_cons] at hy
  obtain ⟨y1, ys, rfl⟩ := List.exists_cons_of_length_pos (l := ys) (by omega)
  simp only [List.length_cons] at hy
  obtain ⟨y2, ys, rfl⟩ := List.exists_cons_of_length_pos (l := ys) (by omega)
  simp only [List.length_cons] at hy
  obtain ⟨y3, ys, rfl⟩ := List.exists_cons_of_length_pos (l := ys) (by omega)
  simp only [List.length_cons] at hy
  obtain ⟨y4, ys, rfl⟩ := List.exists_cons_of_length_pos (l := ys) (by omega)
  simp only [List.length_cons] at hy
  obtain rfl : ys = [] := List.eq_nil_of_length_eq_zero (by omega)
  clear hx hy
  have hS : Tryz.prog.underlying 90 = some (.struct (Tryz.prog.fieldsOf 90)) := by kernel_rfl
  have hp : Tryz.prog.stoodInHeld 90 = false := by kernel_rfl
  have hg : Tryz.prog.eqGuardType Tryz.prog.depth 90 = false := by kernel_rfl
  rw [Sem.run_bind, run_eqGuard_agg hg, Result.andThen_ok]
  refine (?_ : ∀ d, (Op.equalIn (d + 2 + 1) 90 _ _).run Tryz.prog w = _) 9997
  intro d
  rw [run_equalIn_agg w (d + 2) 90 _ _ hS hp]
  clear hS hp hg
  simp only [Program.fieldsOf, Tryz.underlying90, List.map_cons, List.map_nil]
  go_simp
  by_cases h0 : x0 = y0
  rotate_left
  · simp [h0]
  by_cases h1 : x1 = y1
  rotate_left
  · simp [h1]
  by_cases h2 : x2 = y2
  rotate_left
  · simp [h2]
  by_cases h3 : x3 = y3
  rotate_left
  · simp [h3]
  by_cases h4 : x4 = y4
  rotate_left
  · simp [h4]
  simp [h0, h1, h2, h3, h4]

end Go.Proofs.YtkonljmmdifnaaaGreat.V
set_option linter.unusedSimpArgs false
set_option linter.unusedVariables false
namespace Go.Proofs.YtkonljmmdifnaaaGreat.V
open Go.RowKit
set_option maxRecDepth 100000

deriving instance DecidableEq for Cover
deriving instance DecidableEq for Terms
deriving instance DecidableEq for Change
deriving instance DecidableEq for History

theorem take_eq_snoc {α : Type} {a b : List α} {i : Nat} (hi : i < a.length) (hj : i < b.length) (h : a.take i = b.take i) (he : a[i] = b[i]) : a.take (i + 1) = b.take (i + 1) := by
  rw [List.take_succ_eq_append_getElem hi, List.take_succ_eq_append_getElem hj, h, he]

theorem take_eq_all {α : Type} {a b : List α} {i : Nat} (hn : a.length = b.length) (hi : ¬ i < a.length) (h : a.take i = b.take i) : a = b := by
  rwa [List.take_of_length_le (by omega), List.take_of_length_le (by omega)] at h

theorem ne_at {α : Type} {a b : List α} {i : Nat} (hi : i < a.length) (hj : i < b.length) (h : ¬ a[i] = b[i]) : ¬ a = b := by
  intro e; subst e; exact h rfl

theorem cover_flat_inj {a b : Cover} : ([a.peril, a.limit, a.agg, a.ded, a.share] = [b.peril, b.limit, b.agg, b.ded, b.share]) ↔ a = b := by
  cases a; cases b; simp

theorem filt_yes {α : Type} {p : α → Bool} {l : List α} {i : Nat} (hi : i < l.length) (h : p l[i] = true) : (l.take (i + 1)).filter p = (l.take i).filter p ++ [l[i]] := by
  rw [List.take_succ_eq_append_getElem hi, List.filter_append]
  simp [h]
theorem filt_no {α : Type} {p : α → Bool} {l : List α} {i : Nat} (hi : i < l.length) (h : p l[i] = false) : (l.take (i + 1)).filter p = (l.take i).filter p := by
  rw [List.take_succ_eq_append_getElem hi, List.filter_append]
  simp [h]

/-- A slice that is appended to, from nil on: it lies in block b. -/
def outV (b k : Nat) {α : Type} (l : List α) : AV := if l.length = 0 then .v (.slice none 0 0) else .osl b k 0 l.length
theorem outV_nil {b k : Nat} {α : Type} {l : List α} (h : l = []) : outV b k l = .v (.slice none 0 0) := by simp [outV, h]
theorem outV_some {b k : Nat} {α : Type} {l : List α} (h : ¬ l = []) : outV b k l = .osl b k 0 l.length := by simp [outV, h]
theorem outV_snoc {b k : Nat} {α : Type} (l : List α) (x : α) : outV b k (l ++ [x]) = .osl b k 0 (l.length + 1) := by simp [outV]
/-- Its block. -/
def outB (t : TypeId) {α : Type} (F : α → List AV) (l : List α) : Option Bx := if l.length = 0 then none else some ⟨t, (l.map F).flatten⟩
theorem outB_nil {t : TypeId} {α : Type} {F : α → List AV} {l : List α} (h : l = []) : outB t F l = none := by simp [outB, h]
theorem outB_some {t : TypeId} {α : Type} {F : α → List AV} {l : List α} (h : ¬ l = []) : outB t F l = some ⟨t, (l.map F).flatten⟩ := by simp [outB, h]
theorem outB_snoc {t : TypeId} {α : Type} {F : α → List AV} (l : List α) (x : α) : outB t F (l ++ [x]) = some ⟨t, (l.map F).flatten ++ F x⟩ := by simp [outB]
/-- Name b is c. -/
@[go_sem] def nm1 (b c : Nat) (x : Nat) : Nat := if x = b then c else x

theorem rows_ren {α : Type} {F : α → List AV} (hF : ∀ x r, (F x).map (AV.ren r) = F x) (r : Nat → Nat) : ∀ l : List α, ((l.map F).flatten).map (AV.ren r) = (l.map F).flatten
  | [] => rfl
  | x :: l => by rw [List.map_cons, List.flatten_cons, List.map_append, hF, rows_ren hF r l]
theorem rows_nms {α : Type} {F : α → List AV} (hF : ∀ x p, (F x).all (AV.names p) = true) (p : Nat → Bool) : ∀ l : List α, ((l.map F).flatten).all (AV.names p) = true
  | [] => rfl
  | x :: l => by rw [List.map_cons, List.flatten_cons, List.all_append, hF, rows_nms hF p l]; rfl
theorem rows_count {α : Type} {F : α → List AV} {k : Nat} (hk : ∀ x, (F x).length = k) (l : List α) : ((l.map F).flatten).length = l.length * k := by
  have := length_flat (l.map F) (rows_len hk l)
  rwa [List.length_map] at this
/-- The cells of a row. -/
def rowC {α : Type} (F : α → List AV) (l : List α) : List AV := (l.map F).flatten

theorem rowC_len {α : Type} {F : α → List AV} {k : Nat} (hk : ∀ x, (F x).length = k) (l : List α) : (rowC F l).length = l.length * k := rows_count hk l

@[go_sem] theorem rowI_ren (r : Nat → Nat) (l : List Int) : (rowC irow l).map (AV.ren r) = rowC irow l := rows_ren (fun x r => by simp [irow]) r l
@[go_sem] theorem rowI_nms (p : Nat → Bool) (l : List Int) : (rowC irow l).all (AV.names p) = true := rows_nms (fun x p => by simp [irow]) p l
theorem rowI_nms' (p : Nat → Bool) (l : List Int) : (∀ x, x ∈ rowC irow l → AV.names p x = true) ↔ True := by
  simp only [iff_true]
  exact List.all_eq_true.1 (rowI_nms p l)
theorem rowI_at (l : List Int) (i : Nat) : (rowC irow l)[i]? = (l[i]?).map fun n => int n := by
  unfold rowC
  induction l generalizing i with
  | nil => simp
  | cons x l ih =>
    rcases i with _ | i
    · simp [irow]
    · simpa [irow] using ih i
theorem rowI_some {l : List Int} {i : Nat} {x : Int} (h : l[i]? = some x) : (rowC irow l)[i]? = some (int x) := by rw [rowI_at, h]; rfl
theorem rowI_eq (l : List Int) : rowC irow l = l.map fun n => int n := by
  unfold rowC
  induction l with
  | nil => rfl
  | cons x l ih => simp [irow]; simpa [irow] using ih
theorem rowI_ne {l : List Int} (h : l ≠ []) : (rowC irow l = []) ↔ False := by simp [rowI_eq, h]
theorem rowI_len (l : List Int) : (rowC irow l).length = l.length := by simp [rowI_eq]
theorem rowI_put (l : List Int) (i : Nat) (x : Int) (h : i < l.length) : List.take i (rowC irow l) ++ [int x] ++ List.drop (i + 1) (rowC irow l) = rowC irow (l.set i x) := by
  rw [rowI_eq, rowI_eq, List.map_set, List.set_eq_take_append_cons_drop, if_pos (by simpa using h)]
  simp
theorem rowI_set (l : List Int) (i : Nat) (x : Int) (h : i < l.length) : splice (rowC irow l) i [int x] = rowC irow (l.set i x) := by
  rw [rowI_eq, rowI_eq, splice, List.map_set, List.set_eq_take_append_cons_drop, if_pos (by simpa using h)]
  simp
theorem rowI_nz {l : List Int} (h : 0 < l.length) : (rowC irow l = []) ↔ False := rowI_ne (by intro e; subst e; simp at h)

/-- Pairs of numbers: spans. -/
@[go_sem] def prow (p : Int × Int) : List AV := [int p.1, int p.2]
abbrev prs (l : List (Int × Int)) : AV := .sl false 2 (l.map prow)
@[go_sem] theorem rowP_ren (r : Nat → Nat) (l : List (Int × Int)) : (rowC prow l).map (AV.ren r) = rowC prow l := rows_ren (fun x r => by simp [prow]) r l
@[go_sem] theorem rowP_nms (p : Nat → Bool) (l : List (Int × Int)) : (rowC prow l).all (AV.names p) = true := rows_nms (fun x p => by simp [prow]) p l
theorem rowP_nms' (p : Nat → Bool) (l : List (Int × Int)) : (∀ x, x ∈ rowC prow l → AV.names p x = true) ↔ True := by
  simp only [iff_true]
  exact List.all_eq_true.1 (rowP_nms p l)
theorem rowP_len (l : List (Int × Int)) : (rowC prow l).length = l.length * 2 := rowC_len (F := prow) (k := 2) (fun _ => rfl) l
theorem rowC_snoc {α : Type} (F : α → List AV) (l : List α) (x : α) : rowC F (l ++ [x]) = rowC F l ++ F x := by simp [rowC]
end Go.Proofs.YtkonljmmdifnaaaGreat.V
set_option linter.unusedSimpArgs false
set_option linter.unusedVariables false
namespace Go.Proofs.YtkonljmmdifnaaaGreat.V
open Go.RowKit
variable {P : Program} {cx : Cx} {ι : Nat → Option Nat} {box : Nat → Option Bx} {used : Nat → Prop}

theorem code_seq2 {a b : Code} {Q : Exit → LS → Prop} {A : LS} (h : CodeW P cx a (lthen (fun A => CodeW P cx b Q A) Q) A) : CodeW P cx (.seq a b) Q A := by
  refine awp_seq (AWp.mono h ?_)
  rintro e A' ⟨L, rfl, hL⟩
  cases e with
  | normal => exact hL
  | _ => exact ⟨L, rfl, hL⟩

theorem code_block {id : Nat} {a : Code} {Q : Exit → LS → Prop} {A : LS} (h : CodeW P cx a (linBlock id Q) A) : CodeW P cx (.block id a) Q A := by
  refine awp_block (AWp.mono h ?_)
  rintro e A' ⟨L, rfl, hL⟩
  cases e with
  | exit id' =>
    simp only [ainBlock]
    by_cases hh : id' = id
    · rw [if_pos hh]; simp only [linBlock, hh] at hL; exact ⟨L, rfl, by simpa using hL⟩
    · rw [if_neg hh]; exact ⟨L, rfl, by simpa [linBlock, hh] using hL⟩
  | _ => exact ⟨L, rfl, hL⟩

theorem code_cut {c : Code} {Q : Exit → LS → Prop} {A : LS} (r : Nat → Nat) (A' : LS) (h : LCut cx r A A') (hw : CodeW P cx c Q A') : CodeW P cx c Q A := awp_cut h.cut hw

theorem funB_C {f : FuncId} {fn : Func} {c : Code} {fp : List (Nat × Bx)} {args : List AV} {x : AV} {tb : List (Nat × Option Bx)} (n : Nat) (hf : P.funcs[f]? = some fn) (hb : fn.body = some c) (hn : args.length ≤ fn.ntmps)
    (hfp : (fp.all (fun p => !p.2.cs.isEmpty) && okF fp && fp.all (fun p => decide (p.1 < n))) = true)
    (h : ∀ cx : Cx, cx.N = fn.ntmps → cx.R = none → (∀ b g, cx.F b = some g → inl fp b = true) → (args.all AV.lens = true ∧ ∀ b x, bget (lives fp) b = some x → x.cs.all AV.lens = true) → CodeW P cx c (LEndsB P fn.results fp x tb) ⟨argsL args 0, lives fp, n⟩) : FunB P f fp args x tb := by
  simp only [Bool.and_eq_true] at hfp
  refine funB_of hf hb hn hfp.1.1 hfp.1.2 n hfp.2 fun cx hN hR hF hL => ?_
  have := h cx hN hR hF hL
  have he : (⟨argsEnv args, bget (lives fp), fun b => b < n⟩ : AS) = LS.toAS ⟨argsL args 0, lives fp, n⟩ := by
    unfold LS.toAS mkAS
    congr 1
    · funext t
      rw [eget_argsL]
      simp [argsEnv]
    · funext b
      simp
  rw [he]
  refine AWp.mono this ?_
  rintro e A ⟨L, rfl, hL⟩
  cases e with
  | normal => exact LEndsB_sound hL
  | ret => exact LEndsB_sound hL
  | _ => exact hL.elim

theorem code_argsB {c : Code} {Q : Exit → LS → Prop} {args : List AV} {env : Env} {fp : List (Nat × Bx)} {box : Boxes} {n : Nat} (hA : argsL args 0 = env) (hB : lives fp = box) (h : CodeW P cx c Q ⟨env, box, n⟩) : CodeW P cx c Q ⟨argsL args 0, lives fp, n⟩ := by subst hA hB; exact h
theorem code_args {c : Code} {Q : Exit → LS → Prop} {args : List AV} {env : Env} {box : Boxes} {n : Nat} (hA : argsL args 0 = env) (h : CodeW P cx c Q ⟨env, box, n⟩) : CodeW P cx c Q ⟨argsL args 0, box, n⟩ := by subst hA; exact h

/-- A piece of code, behind which S is known. -/
theorem code_seqS {a b : Code} {Q : Exit → LS → Prop} {A : LS} (hm : P.follows .mixedOrders = true) (hok : bodyOK cx.N a = true) (S : LS → Prop) (h : W P cx a (lthen S Q) A) (h2 : ∀ A', S A' → CodeW P cx b Q A') : CodeW P cx (.seq a b) Q A := by
  refine awp_seq ((W_sound hm a _ A hok h).mono ?_)
  rintro e A' ⟨L, rfl, hL⟩
  cases e with
  | normal => exact h2 L hL
  | _ => exact ⟨L, rfl, hL⟩

theorem code_bit {y : Operand} {a b : Code} {p : Prop} {env : Env} {box : Boxes} {n : Nat} {Q : Exit → LS → Prop} (hy : oeval env y = .bit p) (h1 : p → CodeW P cx a Q ⟨env, box, n⟩) (h2 : CodeW P cx b Q ⟨env, box, n⟩) : CodeW P cx (.cond y a b) Q ⟨env, box, n⟩ := by
  intro ι ac w hs
  have hv := hs.eval y
  rw [mkAS_eval, hy] at hv
  obtain ⟨b, hb, hp⟩ := hv.bit'
  exact wpIn_cond_split hb (fun e => h1 (hp e) ι ac w hs) (fun _ => h2 ι ac w hs)

/-- A nil slice may be taken for an empty slice of the call's own, of a new name. -/
theorem code_nil {c : Code} {Q : Exit → LS → Prop} {A : LS} (tm b k : Nat) (ty : TypeId) (h0 : eget A.env tm = .v (.slice none 0 0)) (hb : A.next ≤ b) (h : CodeW P cx c Q ⟨(tm, .osl b k 0 0) :: A.env, (b, some ⟨ty, []⟩) :: A.box, b + 1⟩) : CodeW P cx c Q A :=
  fun ι a w hs => h ι a w (sat_nil tm b k ty h0 hb hs)

/-- From here on the boxes ns are plain data. -/
theorem code_freeze {c : Code} {Q : Exit → LS → Prop} {env : Env} {box pb : Boxes} {n : Nat} (ns : List Nat) (env' : Env) (box' : Boxes) (hp : pickB box ns = pb) (he : fzE pb env env') (hb : fzB ns pb box box') (h : CodeW P cx c Q ⟨env', box', n⟩) : CodeW P cx c Q ⟨env, box, n⟩ :=
  fun ι a w hs => h ι a w (sat_frz ns hp he hb hs)
end Go.Proofs.YtkonljmmdifnaaaGreat.V
