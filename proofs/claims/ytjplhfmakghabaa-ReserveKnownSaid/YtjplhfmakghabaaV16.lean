/- The steps of a reckoning. -/
import Derived.Test.YtjplhfmakghabaaV15
set_option linter.unusedSimpArgs false
set_option linter.unusedVariables false
namespace Go.Proofs.Ytjplhfmakghabaa.V
theorem byKl {p q : Prop} (h : p) (h2 : q) : ByK p ∧ q := ⟨h, h2⟩
theorem byKr {p q : Prop} (h : p) (h2 : q) : q ∧ ByK p := ⟨h2, h⟩
open Go.RowKit

section
variable {P : Program} {cx : Cx} {ops : Array Oper} {draw : Bool} {n0 i j nm m : Nat} {rest : List Oper} {env : Env} {box : Boxes} {u : List Nat} {acc : List (List Nat × List Nat)} {K : Env → Boxes → Prop} {S : OpS} {c : Prop}
  {op : Op} {ty : TypeId} {pos : String} {after : Array Edge} {dst : Option Tmp} {d : Tmp} {x : AV} {fp : List (Nat × Bx)} {g : Bool}

/-! ### Operations -/

theorem rs_nil (h : NapOK ops acc) (hK : K env box) : regW P cx ops true n0 [] i env box u acc K := ⟨fun _ => h, hK⟩
theorem rs_nil_f (hK : K env box) : regW P cx ops false n0 [] i env box u acc K := ⟨(fun h => by cases h), hK⟩

theorem rs_u (hn : n0 + 8 * i = nm) (hS : opR P True env box nm op = some (S, c)) (hK : regK P cx ops draw n0 rest i env box u acc K dst S) (hc : c) :
    regW P cx ops draw n0 ({ dst := dst, op := op, type := ty, pos := pos, after := after, guard := none } :: rest) i env box u acc K := by
  subst hn
  exact opR_ok (cx := cx) (o := { dst := dst, op := op, type := ty, pos := pos, after := after, guard := none }) hS hc hK

theorem rs_g {jj : Nat} {want : Bool} (hd : dstOf ops jj = some d) (hg : guardOf env want d = some g) (hn : n0 + 8 * i = nm) (hS : opR P (g = true) env box nm op = some (S, c)) (hK : regG P cx ops draw n0 rest i env box u acc K g dst S) (hc : c) :
    regW P cx ops draw n0 ({ dst := dst, op := op, type := ty, pos := pos, after := after, guard := some (jj, want) } :: rest) i env box u acc K := by
  subst hn
  unfold regW
  simp only [hd, hg]
  exact .inr (opR_ok (cx := cx) (o := { dst := dst, op := op, type := ty, pos := pos, after := after, guard := some (jj, want) }) hS hc hK)

theorem rs_gf {jj : Nat} {want : Bool} (hd : dstOf ops jj = some d) (hg : guardOf env want d = some false) (hi : i + 1 = j) (hK : regW P cx ops draw n0 rest j (econs dst (.iff false (.v (.bool false))) env) box u (([], []) :: acc) K) :
    regW P cx ops draw n0 ({ dst := dst, op := op, type := ty, pos := pos, after := after, guard := some (jj, want) } :: rest) i env box u acc K := by
  subst hi
  unfold regW
  simp only [hd, hg]
  refine .inl ⟨?_, hK⟩
  first | trivial | rfl

theorem dst_z {o : Oper} {l : List Oper} (h : o.dst = some d) : dstOf (o :: l).toArray 0 = some d := by simp [dstOf, h]
theorem dst_s {o : Oper} {l : List Oper} {k : Nat} (h : dstOf l.toArray k = some d) : dstOf (o :: l).toArray (k + 1) = some d := by simpa [dstOf] using h

theorem rk_v (hi : i + 1 = j) (h : regW P cx ops draw n0 rest j ((d, x) :: env) box u (([], []) :: acc) K) : regK P cx ops draw n0 rest i env box u acc K (some d) ⟨[], x, []⟩ := by
  subst hi; exact ⟨by simp, h⟩
theorem rk_vn (hi : i + 1 = j) (h : regW P cx ops draw n0 rest j env box u (([], []) :: acc) K) : regK P cx ops draw n0 rest i env box u acc K none ⟨[], x, []⟩ := by
  subst hi; exact ⟨by simp, h⟩
theorem rk_r {b : Nat} {bx : Bx} (hi : i + 1 = j) (h : regW P cx ops draw n0 rest j ((d, x) :: env) box u (([b], []) :: acc) K) : regK P cx ops draw n0 rest i env box u acc K (some d) ⟨[(b, bx)], x, []⟩ := by
  subst hi; exact ⟨by simp, h⟩
theorem rk_n {b : Nat} {r : Option Bx} (hi : i + 1 = j) (hb : Nat.blt b (n0 + 8 * i + 8) = true) (h : regW P cx ops draw n0 rest j ((d, x) :: env) ((b, r) :: box) (b :: u) (([], [b]) :: acc) K) : regK P cx ops draw n0 rest i env box u acc K (some d) ⟨[], x, [(b, r)]⟩ := by
  subst hi; exact ⟨by simpa [Nat.blt_eq] using hb, h⟩
theorem rk_s {b b' : Nat} {r : Option Bx} {bx : Bx} (hi : i + 1 = j) (hb : Nat.blt b (n0 + 8 * i + 8) = true) (h : regW P cx ops draw n0 rest j env ((b, r) :: box) (b :: u) (([b'], [b]) :: acc) K) : regK P cx ops draw n0 rest i env box u acc K none ⟨[(b', bx)], x, [(b, r)]⟩ := by
  subst hi; exact ⟨by simpa [Nat.blt_eq] using hb, h⟩
theorem rk_a {b b' b0 : Nat} {r r' : Option Bx} {bx : Bx} (hi : i + 1 = j) (hb : (Nat.blt b (n0 + 8 * i + 8) && Nat.blt b' (n0 + 8 * i + 8)) = true) (h : regW P cx ops draw n0 rest j ((d, x) :: env) ((b, r) :: (b', r') :: box) (b :: b' :: u) (([b0], [b, b']) :: acc) K) :
    regK P cx ops draw n0 rest i env box u acc K (some d) ⟨[(b0, bx)], x, [(b, r), (b', r')]⟩ := by
  subst hi; exact ⟨by simpa [Nat.blt_eq] using hb, h⟩
theorem rk_a2 {b b' b0 b1 : Nat} {r r' : Option Bx} {bx bx' : Bx} (hi : i + 1 = j) (hb : (Nat.blt b (n0 + 8 * i + 8) && Nat.blt b' (n0 + 8 * i + 8)) = true) (h : regW P cx ops draw n0 rest j ((d, x) :: env) ((b, r) :: (b', r') :: box) (b :: b' :: u) (([b0, b1], [b, b']) :: acc) K) :
    regK P cx ops draw n0 rest i env box u acc K (some d) ⟨[(b0, bx), (b1, bx')], x, [(b, r), (b', r')]⟩ := by
  subst hi; exact ⟨by simpa [Nat.blt_eq] using hb, h⟩
theorem rk_rn {b b' : Nat} {r : Option Bx} {bx : Bx} (hi : i + 1 = j) (hb : Nat.blt b (n0 + 8 * i + 8) = true) (h : regW P cx ops draw n0 rest j ((d, x) :: env) ((b, r) :: box) (b :: u) (([b'], [b]) :: acc) K) : regK P cx ops draw n0 rest i env box u acc K (some d) ⟨[(b', bx)], x, [(b, r)]⟩ := by
  subst hi; exact ⟨by simpa [Nat.blt_eq] using hb, h⟩
/-- In general. -/
theorem rk_all {tb : List (Nat × Option Bx)} {env' : Env} {box' : Boxes} {u' : List Nat} {a : List Nat × List Nat} (hi : i + 1 = j) (hb : (tb.all (fun p => Nat.blt p.1 (n0 + 8 * i + 8))) = true) (h1 : econs dst x env = env') (h2 : tb ++ box = box') (h3 : tb.map (·.1) ++ u = u') (h4 : (OpS.mk fp x tb).nm = a) (h : regW P cx ops draw n0 rest j env' box' u' (a :: acc) K) :
    regK P cx ops draw n0 rest i env box u acc K dst ⟨fp, x, tb⟩ := by
  subst hi h1 h2 h3 h4
  refine ⟨?_, h⟩
  simpa [Nat.blt_eq] using hb

theorem rg_v (hi : i + 1 = j) (h : regW P cx ops draw n0 rest j ((d, .iff g x) :: env) box u (([], []) :: acc) K) : regG P cx ops draw n0 rest i env box u acc K g (some d) ⟨[], x, []⟩ := by
  subst hi; exact ⟨by simp, h⟩
theorem rg_r {b : Nat} {bx : Bx} (hi : i + 1 = j) (h : regW P cx ops draw n0 rest j ((d, .iff g x) :: env) box u (([b], []) :: acc) K) : regG P cx ops draw n0 rest i env box u acc K g (some d) ⟨[(b, bx)], x, []⟩ := by
  subst hi; exact ⟨by simp, h⟩
theorem rg_n {b : Nat} {y : Bx} (hi : i + 1 = j) (hb : Nat.blt b (n0 + 8 * i + 8) = true) (ht : g = true → regW P cx ops draw n0 rest j ((d, x) :: env) ((b, some y) :: box) (b :: u) (([], [b]) :: acc) K) (hf : g = false → regW P cx ops draw n0 rest j ((d, .iff false x) :: env) box u (([], []) :: acc) K) :
    regG P cx ops draw n0 rest i env box u acc K g (some d) ⟨[], x, [(b, some y)]⟩ := by
  subst hi
  refine ⟨by simpa [Nat.blt_eq] using hb, ?_⟩
  simp only [List.all_cons, List.all_nil, Option.isNone_some, Bool.false_and]
  exact ⟨ht, hf⟩
theorem rg_s {b b' : Nat} {bx y : Bx} (hi : i + 1 = j) (hb : Nat.blt b (n0 + 8 * i + 8) = true) (ht : g = true → regW P cx ops draw n0 rest j env ((b, some y) :: box) (b :: u) (([b'], [b]) :: acc) K) (hf : g = false → regW P cx ops draw n0 rest j env box u (([b'], []) :: acc) K) :
    regG P cx ops draw n0 rest i env box u acc K g none ⟨[(b', bx)], x, [(b, some y)]⟩ := by
  subst hi
  refine ⟨by simpa [Nat.blt_eq] using hb, ?_⟩
  simp only [List.all_cons, List.all_nil, Option.isNone_some, Bool.false_and]
  exact ⟨ht, hf⟩
/-- Where it makes or writes a box: two ways. -/
theorem rg_w {tb : List (Nat × Option Bx)} {env' : Env} {box' : Boxes} {u' : List Nat} {a r : List Nat × List Nat} (hi : i + 1 = j) (hb : (tb.all (fun p => Nat.blt p.1 (n0 + 8 * i + 8))) = true) (hs : tb.all (fun p => p.2.isNone) = false) (h1 : econs dst x env = env') (h2 : tb ++ box = box') (h3 : tb.map (·.1) ++ u = u') (h4 : (OpS.mk fp x tb).nm = a) (h5 : ((OpS.mk fp x tb).reads, ([] : List Nat)) = r)
    (ht : g = true → regW P cx ops draw n0 rest j env' box' u' (a :: acc) K) (hf : g = false → regW P cx ops draw n0 rest j (econs dst (.iff false x) env) box u (r :: acc) K) :
    regG P cx ops draw n0 rest i env box u acc K g dst ⟨fp, x, tb⟩ := by
  subst hi h1 h2 h3 h4 h5
  refine ⟨by simpa [Nat.blt_eq] using hb, ?_⟩
  simp only [hs]
  exact ⟨ht, hf⟩
/-- Where it gives up boxes. -/
theorem rg_k {tb : List (Nat × Option Bx)} {env' : Env} {box' : Boxes} {u' : List Nat} {a : List Nat × List Nat} (hi : i + 1 = j) (hb : (tb.all (fun p => Nat.blt p.1 (n0 + 8 * i + 8))) = true) (hs : tb.all (fun p => p.2.isNone) = true) (h1 : econs dst (.iff g x) env = env') (h2 : tb ++ box = box') (h3 : tb.map (·.1) ++ u = u') (h4 : (OpS.mk fp x tb).nm = a)
    (h : regW P cx ops draw n0 rest j env' box' u' (a :: acc) K) : regG P cx ops draw n0 rest i env box u acc K g dst ⟨fp, x, tb⟩ := by
  subst hi h1 h2 h3 h4
  refine ⟨by simpa [Nat.blt_eq] using hb, ?_⟩
  simp only [hs]
  exact h

/-! ### Calls -/

def callR (env : Env) (c : Call) : Option (FuncId × List AV) :=
  match c.callee with
  | .value (.func f) => some (f, sevs env c.args.toList)
  | .value y => match seval env y with
    | .fn (.func f) first caps => some (f, first ++ (sevs env c.args.toList ++ caps))
    | .v (.func (.func f) ⟨[]⟩ ⟨[]⟩) => some (f, sevs env c.args.toList)
    | _ => none
  | _ => none

theorem callR_ok {hyp : Prop} {o : Oper} {cl : Call} {f : FuncId} {l : List AV} {K : OpS → Prop} (ho : o.op = .call cl) (h : callR env cl = some (f, l)) (hc : cndsOK hyp env cl.operands.toList) (hK : CallW P cx hyp env box nm f l o K) : opW P cx hyp env box nm o K := by
  unfold opW
  rw [ho]
  refine ⟨cnds_ops hc, ?_⟩
  unfold restW
  simp only [ho]
  unfold callR at h
  unfold callOpW
  rw [sevs_eq] at h
  split at h
  · rename_i f' e1
    injection h with h; injection h with h1 h2; subst h1 h2
    simp only [e1]
    exact hK
  · rename_i y hne e1
    split at h
    · rename_i f' first caps e2
      injection h with h; injection h with h1 h2; subst h1 h2
      simp only [e1, e2]
      have := hK
      rw [← List.append_assoc] at this
      exact this
    · rename_i f' e2
      injection h with h; injection h with h1 h2; subst h1 h2
      simp only [e1, e2]
      exact hK
    · cases h
  · cases h

def callOps (cl : Call) : List Operand := match cl.callee with | .value f => f :: cl.args.toList | .invoke r _ => r :: cl.args.toList | .builtin _ => cl.args.toList
theorem callOps_eq (cl : Call) : cl.operands.toList = callOps cl := by
  unfold Call.operands callOps
  split <;> simp_all

theorem rs_call {cl : Call} {f : FuncId} {l : List AV} (hS : callR env cl = some (f, l)) (hn : n0 + 8 * i = nm) (hK : CallW P cx True env box nm f l { dst := dst, op := .call cl, type := ty, pos := pos, after := after, guard := none } (regK P cx ops draw n0 rest i env box u acc K dst)) (hc : cndsOK True env (callOps cl)) :
    regW P cx ops draw n0 ({ dst := dst, op := .call cl, type := ty, pos := pos, after := after, guard := none } :: rest) i env box u acc K := by
  subst hn
  rw [← callOps_eq] at hc
  exact callR_ok (cx := cx) (o := { dst := dst, op := .call cl, type := ty, pos := pos, after := after, guard := none }) rfl hS hc hK

theorem rs_callg {jj : Nat} {want : Bool} {cl : Call} {f : FuncId} {l : List AV} (hd : dstOf ops jj = some d) (hg : guardOf env want d = some g) (hS : callR env cl = some (f, l)) (hn : n0 + 8 * i = nm) (hK : CallW P cx (g = true) env box nm f l { dst := dst, op := .call cl, type := ty, pos := pos, after := after, guard := some (jj, want) } (regG P cx ops draw n0 rest i env box u acc K g dst)) (hc : cndsOK (g = true) env (callOps cl)) :
    regW P cx ops draw n0 ({ dst := dst, op := .call cl, type := ty, pos := pos, after := after, guard := some (jj, want) } :: rest) i env box u acc K := by
  subst hn
  rw [← callOps_eq] at hc
  unfold regW
  simp only [hd, hg]
  exact .inr (callR_ok (cx := cx) (o := { dst := dst, op := .call cl, type := ty, pos := pos, after := after, guard := some (jj, want) }) rfl hS hc hK)

theorem callWe {hyp : Prop} {f : FuncId} {l xs : List AV} {o : Oper} {K : OpS → Prop} (hc : Callable P f) (hF : Fun P f xs x) (hl : l = xs) (hd : xs.all AV.isData = true) (hK : K ⟨[], x, []⟩) : CallW P cx hyp env box nm f l o K := by
  subst hl
  exact callW hc hF hd hK
theorem callF' {hyp : Prop} {f : FuncId} {l xs : List AV} {o : Oper} {K : OpS → Prop} {pb : Boxes} {kb : List (Nat × Option Bx)} (ns : List Nat) (hc : Callable P f) (hF : Fun P f xs x) (hp : pickB box ns = pb) (hl : liveOf pb pb = fp) (hk : kills fp = kb)
    (hfz : fzl (fz pb 6) l xs) (hK : K ⟨fp, x, kb⟩) : CallW P cx hyp env box nm f l o K := by
  subst hp hl hk
  exact callF ns hc hF hfz hK
theorem callL' {hyp : Prop} {f : FuncId} {l xs : List AV} {o : Oper} {K : OpS → Prop} {pb : Boxes} (ns : List Nat) (hc : Callable P f) (hF : Fun P f xs x) (hp : pickB box ns = pb) (hl : liveOf pb pb = fp) (hx : x.flat0 = true)
    (hfz : fzl (fz pb 6) l xs) (hK : K ⟨fp, x, []⟩) : CallW P cx hyp env box nm f l o K := by
  subst hp hl
  exact callL ns hc hF hx hfz hK
theorem callB' {hyp : Prop} {f : FuncId} {l args : List AV} {o : Oper} {K : OpS → Prop} {fp fp' : List (Nat × Bx)} {tb tb' : List (Nat × Option Bx)} {x' : AV} (r : List Nat) (hc : Callable P f) (hF : FunB P f fp args x tb)
    (hl : l = args.map (AV.ren (look r))) (hs : (args.all (AV.names (inl fp)) && okF fp && okT fp tb && x.names (fun b => inl fp b || inl tb b) && injN (look r) (nmsF fp ++ nmsT tb)) = true) (h1 : renF (look r) fp = fp') (h2 : renT (look r) tb = tb') (h3 : x.ren (look r) = x') (hfp : boxesOK box fp') (hfr : freshOK nm fp' tb')
    (hK : K ⟨fp', x', tb'⟩) : CallW P cx hyp env box nm f l o K := by
  subst h1 h2 h3
  exact callBW r hc hF hl hs hfp hfr hK

/-! ### Code -/

variable {Q : Exit → LS → Prop} {A : LS} {next : LS → Prop} {id id' n : Nat} {a b : Code}

theorem w_skip (h : Q .normal A) : W P cx .skip Q A := h
theorem w_label {l : Nat} (h : Q .normal A) : W P cx (.label l) Q A := h
theorem w_ret (h : Q .ret A) : W P cx .ret Q A := h
theorem w_exit (h : Q (.exit id) A) : W P cx (.exit id) Q A := h
theorem w_seq (h : W P cx a (lthen (fun A => W P cx b Q A) Q) A) : W P cx (.seq a b) Q A := h
theorem w_block (h : W P cx a (linBlock id Q) A) : W P cx (.block id a) Q A := h
theorem w_loop (h : LoopW P cx a Q A) : W P cx (.loop a) Q A := h
theorem w_region {l : List Oper} (hm : n + 1000 = m) (hs : Nat.ble (8 * l.length) 1000 = true) (h : ∀ K : Env → Boxes → Prop, (∀ env box, Q .normal ⟨env, box, m⟩ → K env box) → regW P cx l.toArray draw n l 0 env box [] [] K) : W P cx (.region id l.toArray draw) Q ⟨env, box, n⟩ := by
  subst hm
  exact h _ fun env box hq => ⟨n + 1000, by have := Nat.le_of_ble_eq_true hs; simp; omega, hq⟩
theorem w_cond {y : Operand} {t : Bool} (hy : oeval env y = .v (.bool t)) (h1 : t = true → W P cx a Q ⟨env, box, n⟩) (h2 : t = false → W P cx b Q ⟨env, box, n⟩) : W P cx (.cond y a b) Q ⟨env, box, n⟩ := by
  simp only [W, hy]
  exact ⟨h1, h2⟩
theorem w_bit {y : Operand} {p : Prop} (hy : oeval env y = .bit p) (h1 : p → W P cx a Q ⟨env, box, n⟩) (h2 : W P cx b Q ⟨env, box, n⟩) : W P cx (.cond y a b) Q ⟨env, box, n⟩ := by
  simp only [W, hy]
  exact ⟨h1, h2⟩
theorem w_if {y : Operand} (hy : oeval env y = .v (.bool true)) (h : W P cx a Q ⟨env, box, n⟩) : W P cx (.cond y a b) Q ⟨env, box, n⟩ := w_cond hy (fun _ => h) (fun h => by cases h)
theorem w_else {y : Operand} (hy : oeval env y = .v (.bool false)) (h : W P cx b Q ⟨env, box, n⟩) : W P cx (.cond y a b) Q ⟨env, box, n⟩ := w_cond hy (fun h => by cases h) (fun _ => h)

/-- How a body ends, its results as a list. -/
def LEndsL (P : Program) (rs : List ResultVar) (x : AV) (A : LS) : Prop :=
  match rs, x with
    | [], .tup [] => True
    | [r], x => resW P A.env A.box r fun y => fzA A.box y x
    | [r, s], .tup [x, x'] => resW P A.env A.box r fun y => fzA A.box y x ∧ resW P A.env A.box s fun y => fzA A.box y x'
    | [r, s, t], .tup [x, x', x''] => resW P A.env A.box r fun y => fzA A.box y x ∧ resW P A.env A.box s fun y => fzA A.box y x' ∧ resW P A.env A.box t fun y => fzA A.box y x''
    | _, _ => False
theorem ends_r {rs : Array ResultVar} {l : List ResultVar} (hr : rs = l.toArray) (h : LEndsL P l x A) : LEnds P rs x .ret A := by subst hr; exact h
theorem ends_n {rs : Array ResultVar} {l : List ResultVar} (hr : rs = l.toArray) (h : LEndsL P l x A) : LEnds P rs x .normal A := by subst hr; exact h
def LEndsBL (P : Program) (rs : List ResultVar) (fp : List (Nat × Bx)) (x : AV) (tb : List (Nat × Option Bx)) (A : LS) : Prop :=
  (endB A.box (keptB tb fp) ∧ okT fp tb = true ∧ x.names (fun b => inl fp b || inl tb b) = true) ∧ match rs, x with
    | [], .tup [] => True
    | [r], x => resW P A.env A.box r fun y => fzX (restB A.box (tb ++ lives fp)) y x
    | [r, s], .tup [x, x'] => resW P A.env A.box r fun y => fzX (restB A.box (tb ++ lives fp)) y x ∧ resW P A.env A.box s fun y => fzX (restB A.box (tb ++ lives fp)) y x'
    | [r, s, t], .tup [x, x', x''] => resW P A.env A.box r fun y => fzX (restB A.box (tb ++ lives fp)) y x ∧ resW P A.env A.box s fun y => fzX (restB A.box (tb ++ lives fp)) y x' ∧ resW P A.env A.box t fun y => fzX (restB A.box (tb ++ lives fp)) y x''
    | _, _ => False
theorem endsB_r {rs : Array ResultVar} {fp : List (Nat × Bx)} {tb : List (Nat × Option Bx)} {l : List ResultVar} (hr : rs = l.toArray) (h : LEndsBL P l fp x tb A) : LEndsB P rs fp x tb .ret A := by subst hr; exact h
theorem endsB_n {rs : Array ResultVar} {fp : List (Nat × Bx)} {tb : List (Nat × Option Bx)} {l : List ResultVar} (hr : rs = l.toArray) (h : LEndsBL P l fp x tb A) : LEndsB P rs fp x tb .normal A := by subst hr; exact h

theorem args_k {args : List AV} (hA : argsL args 0 = env) (h : W P cx a Q ⟨env, box, n⟩) : W P cx a Q ⟨argsL args 0, box, n⟩ := by subst hA; exact h
theorem args_kb {args : List AV} {bx : Boxes} (hA : argsL args 0 = env) (hB : bx = box) (h : W P cx a Q ⟨env, box, n⟩) : W P cx a Q ⟨argsL args 0, bx, n⟩ := by subst hA hB; exact h
theorem lt_n (h : next A) : lthen next Q .normal A := h
theorem lt_r (h : Q .ret A) : lthen next Q .ret A := h
theorem lt_e (h : Q (.exit id) A) : lthen next Q (.exit id) A := h
theorem lb_n (h : Q .normal A) : linBlock id Q .normal A := h
theorem lb_r (h : Q .ret A) : linBlock id Q .ret A := h
theorem lb_e (h : Q .normal A) : linBlock id Q (.exit id) A := by unfold linBlock; simpa using h
theorem lb_m (hne : Nat.beq id' id = false) (h : Q (.exit id') A) : linBlock id Q (.exit id') A := by
  simp only [linBlock]
  rw [if_neg (by rintro rfl; simp at hne)]
  exact h
end
end Go.Proofs.Ytjplhfmakghabaa.V
