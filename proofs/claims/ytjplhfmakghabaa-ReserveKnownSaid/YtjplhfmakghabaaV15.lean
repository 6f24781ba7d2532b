/- Operations, reckoned one by one: what each yields, and what it asks for. -/
import Derived.Test.YtjplhfmakghabaaV13
set_option linter.unusedSimpArgs false
set_option linter.unusedVariables false
namespace Go.Proofs.Ytjplhfmakghabaa.V
open Go.RowKit

/-- What the kernel finds by itself. -/
def ByK (p : Prop) : Prop := p
theorem byK {p : Prop} (h : p) : ByK p := h

abbrev OpR := Option (OpS × Prop)

def ldR (ti : Option TI) (x : AV) (box : Boxes) (c : Prop) : OpR :=
  match ti, x with
  | some i, .ptr b off => match bget box b with
    | some bx => match ldAV i.agg i.size off bx.cs with
      | some x => some (⟨[(b, bx)], x, []⟩, c ∧ bx.cs ≠ [])
      | none => none
    | none => none
  | some i, .pp l => match ldAV i.agg i.size 0 l with
    | some x => some (⟨[], x, []⟩, c)
    | none => none
  | _, _ => none

def stR (ti : Option TI) (x u : AV) (box : Boxes) (c : Prop) : OpR :=
  match ti, x with
  | some i, .ptr b off => match bget box b with
    | some bx => some (⟨[(b, bx)], .v undef, [(b, some ⟨bx.t, splice bx.cs off u.cells⟩)]⟩, c ∧ u.flat = true ∧ u.cells.length = i.size ∧ off + i.size ≤ bx.cs.length ∧ 0 < i.size)
    | none => none
  | _, _ => none

def fldR (P : Program) (k : Option TK) (x : AV) (f : Nat) (c : Prop) : OpR :=
  match k with
  | some (.struct fs) => match fs[f]? with
    | some (fo, ft) => match tv P ft with
      | some j => match x with
        | .ptr b off => some (⟨[], .ptr b (off + fo), []⟩, c ∧ j.size ≠ 0)
        | .pp l => some (⟨[], .pp (l.drop fo), []⟩, c ∧ j.size ≠ 0)
        | _ => none
      | none => none
    | none => none
  | _ => none

def idxR (P : Program) (hyp : Prop) (k : Option TK) (x z : AV) (c : Prop) : OpR :=
  match k, z with
  | some (.slice e), .v (.int _ i) => match tv P e with
    | some j => match x with
      | .sl _ k l => some (⟨[], .pp ((l[i.toNat]?).getD []), []⟩, c ∧ k = j.size ∧ (hyp → 0 ≤ i ∧ i < l.length))
      | .osl b k off n => some (⟨[], .ptr b (off + i.toNat * k), []⟩, c ∧ k = j.size ∧ (hyp → 0 ≤ i ∧ i < n))
      | _ => none
    | none => none
  | some (.array n e), .v (.int _ i) => match tv P e with
    | some j => match x with
      | .ptr b off => some (⟨[], .ptr b (off + i.toNat * j.size), []⟩, c ∧ (hyp → 0 ≤ i ∧ i < n))
      | .pp l => some (⟨[], .pp (l.drop (i.toNat * j.size)), []⟩, c ∧ (hyp → 0 ≤ i ∧ i < n))
      | _ => none
    | none => none
  | _, _ => none

def isSlK (ti : Option TI) : Bool := match ti with
  | some i => match i.k with
    | .slice _ => true
    | _ => false
  | none => false
theorem isSlK_ok {P : Program} {t : TypeId} (h : isSlK (tv P t) = true) : ∃ e, P.underlying t = some (.slice e) := by
  unfold isSlK at h
  split at h
  · rename_i i hi
    split at h
    · rename_i e he
      exact ⟨e, tv_slice hi he⟩
    · cases h
  · cases h

def binR (P : Program) (op : BinOp) (t : TypeId) (cy : Bool) (x y : AV) (c : Prop) : OpR :=
  match x, y with
  | .v (.int k a), .v (.int k' b) => match intBin op k a b with | some z => some (⟨[], z, []⟩, c ∧ k = k') | none => none
  | .v (.bool a), .v (.bool b) => match op with
    | .eql => some (⟨[], .v (.bool (a == b)), []⟩, c ∧ ByK (P.underlying t = some .bool))
    | .neq => some (⟨[], .v (.bool (a != b)), []⟩, c ∧ ByK (P.underlying t = some .bool))
    | _ => none
  | .sl _ _ l, .v (.slice none 0 0) => some (⟨[], .bit (l = []), []⟩, c ∧ op = .eql ∧ isSlK (tv P t) = true)
  | .v (.slice A _ _), .v (.slice none 0 0) => some (⟨[], .v (.bool A.isNone), []⟩, c ∧ op = .eql ∧ isSlK (tv P t) = true)
  | .iface _ _, .v .nilIface => some (⟨[], .v (.bool false), []⟩, c ∧ op = .eql ∧ ByK (P.underlying t = some (.interface (P.methodsAt t))))
  | .v .nilIface, .v .nilIface => some (⟨[], .v (.bool true), []⟩, c ∧ op = .eql ∧ cy = true ∧ ByK (P.underlying t = some (.interface (P.methodsAt t))))
  | .agg xs, .agg ys => match xs.mapM AV.int?, ys.mapM AV.int? with
    | some us, some vs => match op with
      | .eql => some (⟨[], .v (.bool (decide (us = vs))), []⟩, c ∧ EqInts P t us.length ∧ us.length = vs.length)
      | .neq => some (⟨[], .v (.bool (!decide (us = vs))), []⟩, c ∧ EqInts P t us.length ∧ us.length = vs.length)
      | _ => none
    | _, _ => match xs.mapM AV.sc?, ys.mapM AV.sc? with
      | some us, some vs => match op with
        | .eql => some (⟨[], .v (.bool (decide (us = vs))), []⟩, c ∧ EqScs P t us vs)
        | .neq => some (⟨[], .v (.bool (!decide (us = vs))), []⟩, c ∧ EqScs P t us vs)
        | _ => none
      | _, _ => none
  | _, _ => none

def unR (op : UnOp) (x : AV) (c : Prop) : OpR :=
  match op, x with
  | .not, .v (.bool b) => some (⟨[], .v (.bool !b), []⟩, c)
  | .neg, .v (.int k n) => some (⟨[], .v (.int k (k.wrap (0 - n))), []⟩, c)
  | _, _ => none

def boxR (nm : Nat) (t : TypeId) (x : AV) (c : Prop) : OpR := some (⟨[], .ptr nm 0, [(nm, some ⟨t, x.cells⟩)]⟩, c ∧ x.flat = true)

def allocR (ti : Option TI) (nm : Nat) (t : TypeId) : OpR :=
  match ti with
  | some i => some (⟨[], .ptr nm 0, [(nm, some ⟨t, i.zero.cells.toList.map .v⟩)]⟩, i.zero.cells.all (·.oneCell') = true)
  | none => none

def buildR (P : Program) (ti : Option TI) (parts : List (Nat × AV)) (c : Prop) : OpR :=
  match ti with
  | some i => match i.k with
    | .struct fs => match afill (fun j => (placesOf P fs)[j]?) (i.zero.cells.toList.map .v) parts with
      | some l => some (⟨[], .agg l, []⟩, c ∧ i.zero.cells.all (·.oneCell') = true ∧ knownAll P fs = true)
      | none => none
    | .array _ e => match tv P e with
      | some j => match afill (fun m => some (m * j.size, j.size)) (i.zero.cells.toList.map .v) parts with
        | some l => some (⟨[], .agg l, []⟩, c ∧ i.zero.cells.all (·.oneCell') = true)
        | none => none
      | none => none
    | _ => none
  | none => none

def bslR (P : Program) (k : Option TK) (nm len : Nat) (parts : List (Nat × AV)) (c : Prop) : OpR :=
  match k with
  | some (.slice e) => match tv P e with
    | some j => match afill (fun m => some (m * j.size, j.size)) (zerosOf j.zero j.size len) parts with
      | some l => some (⟨[], .osl nm j.size 0 len, [(nm, some ⟨e, l⟩)]⟩, c ∧ j.zero.cells.size = j.size ∧ 0 < j.size ∧ j.zero.cells.all (·.oneCell') = true ∧ len * j.size ≤ 16777216)
      | none => none
    | none => none
  | _ => none

def slcR (P : Program) (k : Option TK) (x : AV) (lo hi mx : Option AV) (c : Prop) : OpR :=
  match k, x with
  | some (.slice e), .sl full k l => match tv P e, lo, hi, mx with
    | some j, none, none, none => some (⟨[], .sl full k l, []⟩, c ∧ k = j.size)
    | some j, some (.v (.int .i64 a)), none, none => some (⟨[], .sl full k (l.drop a.toNat), []⟩, c ∧ k = j.size ∧ 0 ≤ a ∧ a ≤ l.length)
    | some j, none, some (.v (.int .i64 b)), none => some (⟨[], .sl (full && decide (b.toNat = l.length)) k (l.take b.toNat), []⟩, c ∧ k = j.size ∧ 0 ≤ b ∧ b ≤ l.length)
    | some j, some (.v (.int .i64 a)), some (.v (.int .i64 b)), none => some (⟨[], .sl (full && decide (b.toNat = l.length)) k ((l.take b.toNat).drop a.toNat), []⟩, c ∧ k = j.size ∧ 0 ≤ a ∧ a ≤ b ∧ b ≤ l.length)
    | some j, none, some (.v (.int .i64 b)), some (.v (.int .i64 m)) => some (⟨[], .sl true k (l.take b.toNat), []⟩, c ∧ k = j.size ∧ 0 ≤ b ∧ b ≤ l.length ∧ m = b)
    | some j, some (.v (.int .i64 a)), some (.v (.int .i64 b)), some (.v (.int .i64 m)) => some (⟨[], .sl true k ((l.take b.toNat).drop a.toNat), []⟩, c ∧ k = j.size ∧ 0 ≤ a ∧ a ≤ b ∧ b ≤ l.length ∧ m = b)
    | _, _, _, _ => none
  | some (.slice e), .osl bx k off n => match tv P e, lo, hi, mx with
    | some j, none, none, none => some (⟨[], .osl bx k off n, []⟩, c ∧ k = j.size)
    | some j, some (.v (.int .i64 a)), none, none => some (⟨[], .osl bx k (off + a.toNat * k) (n - a.toNat), []⟩, c ∧ k = j.size ∧ 0 ≤ a ∧ a ≤ n)
    | some j, none, some (.v (.int .i64 b)), none => some (⟨[], .osl bx k off b.toNat, []⟩, c ∧ k = j.size ∧ 0 ≤ b ∧ b ≤ n)
    | some j, some (.v (.int .i64 a)), some (.v (.int .i64 b)), none => some (⟨[], .osl bx k (off + a.toNat * k) (b.toNat - a.toNat), []⟩, c ∧ k = j.size ∧ 0 ≤ a ∧ a ≤ b ∧ b ≤ n)
    | _, _, _, _ => none
  | _, _ => none

def cvR (P : Program) (s d : TypeId) (ti : Option TI) (x : AV) (c : Prop) : OpR :=
  match ti, x with
  | some i, .v (.int _ n) => match i.zero with
    | .int k _ => some (⟨[], .v (.int k (k.wrap n)), []⟩, c ∧ ByK (P.underlying d = some (.int k)) ∧ ByK ((P.underlying s).isSome = true))
    | _ => none
  | _, _ => none

def mkR (P : Program) (tk : Option TK) (nm : Nat) (x y : AV) (c : Prop) : OpR :=
  match tk, x, y with
  | some (.slice e), .v (.int .i64 n), .v (.int .i64 m) => match tv P e with
    | some j => some (⟨[], .osl nm j.size 0 n.toNat, [(nm, some ⟨e, zerosOf j.zero j.size n.toNat⟩)]⟩, c ∧ j.zero.cells.size = j.size ∧ 0 < j.size ∧ j.zero.cells.all (·.oneCell') = true ∧ 0 ≤ n ∧ n ≤ m ∧ m.toNat * j.bytes ≤ 140737488355328 ∧ m.toNat ≤ maxLen)
    | none => none
  | _, _, _ => none

def lenR (k : Option TK) (x : AV) (c : Prop) : OpR :=
  match k with
  | some (.slice _) => match x with
    | .sl _ _ l => some (⟨[], int l.length, []⟩, c)
    | .osl _ _ _ n => some (⟨[], int n, []⟩, c)
    | .v (.slice _ n _) => some (⟨[], int n, []⟩, c)
    | _ => none
  | _ => none

def appR (P : Program) (k : Option TK) (nm : Nat) (box : Boxes) (s x : AV) (c : Prop) : OpR :=
  match k with
  | some (.slice e) => match tv P e with
    | some j => match srcOf box j.size x with
      | some (fpx, m, news) => match s with
        | .osl b0 k 0 n => match bget box b0 with
          | some bx => some (⟨(b0, bx) :: fpx, .osl nm k 0 (n + m), [(b0, none), (nm, some ⟨e, bx.cs ++ news⟩)]⟩, c ∧ j.zero.cells.size = j.size ∧ 0 < j.size ∧ (fpx.all (fun p => decide (p.1 ≠ nm)) = true) ∧ (k = j.size ∧ bx.cs.length = n * k ∧ bx.t = e ∧ nm ≠ b0) ∧ (n + m ≤ maxLen ∧ (n + m) * j.bytes ≤ 140737488355328))
          | none => none
        | .sl full k l => some (⟨fpx, .osl nm k 0 (l.length + m), [(nm, some ⟨e, l.flatten ++ news⟩)]⟩, c ∧ j.zero.cells.size = j.size ∧ 0 < j.size ∧ (fpx.all (fun p => decide (p.1 ≠ nm)) = true) ∧ (full = true ∧ k = j.size) ∧ (0 < m ∨ l = []) ∧ (l.length + m ≤ maxLen ∧ (l.length + m) * j.bytes ≤ 140737488355328))
        | .v (.slice none 0 0) => some (⟨fpx, .osl nm j.size 0 m, [(nm, some ⟨e, news⟩)]⟩, c ∧ j.zero.cells.size = j.size ∧ 0 < j.size ∧ (fpx.all (fun p => decide (p.1 ≠ nm)) = true) ∧ m ≤ maxLen ∧ m * j.bytes ≤ 140737488355328)
        | _ => none
      | none => none
    | none => none
  | _ => none

def lkR (P : Program) (ti : Option TypeDesc) (x k : AV) (comma : Bool) (c : Prop) : OpR :=
  match x, k, ti with
  | .mp es _, .v (.int .i64 n), some (.map kt et) => match Instr.findNow (.int .i64) (.int .i64 n) es.toList 0 with
    | some (some (_, v)) => some (⟨[], .tup [ofV v, .v (.bool true)], []⟩, c ∧ comma = true ∧ ByK (P.underlying kt = some (.int .i64)))
    | some none => match tv P et with
      | some i => some (⟨[], .tup [.v i.zero, .v (.bool false)], []⟩, c ∧ comma = true ∧ ByK (P.underlying kt = some (.int .i64)))
      | none => none
    | none => none
  | _, _, _ => none

def taR (ti : Option TI) (t : TypeId) (x : AV) (comma : Bool) (c : Prop) : OpR :=
  match ti with
  | some i => match i.k with
    | .struct _ => match x with
      | .iface s y => match Nat.beq s t with
        | true => some (⟨[], .tup [y, .v (.bool true)], []⟩, c ∧ comma = true)
        | false => some (⟨[], .tup [.v i.zero, .v (.bool false)], []⟩, c ∧ comma = true)
      | .v .nilIface => some (⟨[], .tup [.v i.zero, .v (.bool false)], []⟩, c ∧ comma = true)
      | _ => none
    | _ => none
  | none => none

def ixR (P : Program) (hyp : Prop) (k : Option TK) (x z : AV) (c : Prop) : OpR :=
  match k, x, z with
  | some (.array n e), .agg l, .v (.int _ i) => match tv P e with
    | some j => match ldAV j.agg j.size (i.toNat * j.size) l with
      | some y => some (⟨[], y, []⟩, c ∧ (hyp → 0 ≤ i ∧ i < n))
      | none => none
    | none => none
  | _, _, _ => none

def mmR (mx : Bool) (x y : AV) (c : Prop) : OpR :=
  match x, y with
  | .v (.int k a), .v (.int k' b) => some (⟨[], .v (.int k (cond mx (max a b) (min a b))), []⟩, c ∧ k = k')
  | _, _ => none

def extR (x : AV) (i : Nat) (c : Prop) : OpR := match x with | .tup l => (match l[i]? with | some y => some (⟨[], y, []⟩, c) | none => none) | _ => none

def fieldR (P : Program) (k : Option TK) (x : AV) (f : Nat) (c : Prop) : OpR :=
  match k, x with
  | some (.struct fs), .agg l => match fs[f]? with
    | some (fo, ft) => match tv P ft with
      | some j => match ldAV j.agg j.size fo l with
        | some y => some (⟨[], y, []⟩, c)
        | none => none
      | none => none
    | none => none
  | _, _ => none

def pickR (hyp : Prop) (x p q p' q' : AV) (c : Prop) : OpR :=
  match x with
  | .v (.bool t) => some (⟨[], pickAV t p q, []⟩, c ∧ cndOK2 hyp t true p' ∧ cndOK2 hyp t false q')
  | _ => none

def cndsOK (hyp : Prop) (env : Env) : List Operand → Prop
  | [] => True
  | [y] => cndOK hyp (oeval env y)
  | y :: l => cndOK hyp (oeval env y) ∧ cndsOK hyp env l

theorem cnds_ops {hyp : Prop} {env : Env} : ∀ {l : List Operand}, cndsOK hyp env l → opsOK hyp env l
  | [], _ => trivial
  | [_], h => ⟨h, trivial⟩
  | _ :: _ :: _, h => ⟨h.1, cnds_ops h.2⟩

def sevals (env : Env) : List (Nat × Operand) → List (Nat × AV)
  | [] => []
  | (i, y) :: l => (i, seval env y) :: sevals env l
theorem sevals_eq {env : Env} : ∀ (l : List (Nat × Operand)), sevals env l = l.map fun p => (p.1, seval env p.2)
  | [] => rfl
  | (i, y) :: l => by rw [sevals, sevals_eq l]; rfl
def sevs (env : Env) : List Operand → List AV
  | [] => []
  | y :: l => seval env y :: sevs env l
theorem sevs_eq {env : Env} : ∀ (l : List Operand), sevs env l = l.map (seval env)
  | [] => rfl
  | y :: l => by rw [sevs, sevs_eq l]; rfl
def sevo (env : Env) : Option Operand → Option AV
  | none => none
  | some y => some (seval env y)
def seconds : List (Nat × Operand) → List Operand
  | [] => []
  | (_, y) :: l => y :: seconds l
theorem seconds_eq : ∀ (l : List (Nat × Operand)), seconds l = l.map (·.2)
  | [] => rfl
  | (i, y) :: l => by rw [seconds, seconds_eq l]; rfl
def kindOfT (ti : Option TI) : Option TK := match ti with | some i => some i.k | none => none
theorem kindOfT_eq (ti : Option TI) : ti.map TI.k = kindOfT ti := by cases ti <;> rfl

def ncR (x : AV) (c : Prop) : OpR := match x with | .ptr b off => some (⟨[], .ptr b off, []⟩, c) | _ => none

def opR (P : Program) (hyp : Prop) (env : Env) (box : Boxes) (nm : Nat) : Op → OpR
  | .pick c p q => pickR hyp (seval env c) (seval env p) (seval env q) (oeval env p) (oeval env q) (cndOK hyp (oeval env c))
  | .move y => some (⟨[], seval env y, []⟩, cndOK hyp (oeval env y))
  | .assign y => some (⟨[], seval env y, []⟩, cndOK hyp (oeval env y))
  | .load t y => ldR (tv P t) (seval env y) box (cndOK hyp (oeval env y))
  | .store t y u => stR (tv P t) (seval env y) (seval env u) box (cndOK hyp (oeval env y) ∧ cndOK hyp (oeval env u))
  | .fieldAddr s y f => fldR P (kindOfT (tv P s)) (seval env y) f (cndOK hyp (oeval env y))
  | .indexAddr t y z => idxR P hyp (kindOfT (tv P t)) (seval env y) (seval env z) (cndOK hyp (oeval env y) ∧ cndOK hyp (oeval env z))
  | .binOp op t x y _ => binR P op t (isConst y) (seval env x) (seval env y) (cndOK hyp (oeval env x) ∧ cndOK hyp (oeval env y))
  | .unOp op _ x => unR op (seval env x) (cndOK hyp (oeval env x))
  | .box t y => boxR nm t (seval env y) (cndOK hyp (oeval env y))
  | .alloc t => allocR (tv P t) nm t
  | .build t parts => buildR P (tv P t) (sevals env parts.toList) (cndsOK hyp env (seconds parts.toList))
  | .buildSlice t len parts => bslR P (kindOfT (tv P t)) nm len (sevals env parts.toList) (cndsOK hyp env (seconds parts.toList))
  | .slice t y lo hi mx => slcR P (kindOfT (tv P t)) (seval env y) (sevo env lo) (sevo env hi) (sevo env mx) (cndsOK hyp env ([y] ++ lo.toList ++ hi.toList ++ mx.toList))
  | .convert s d x => cvR P s d (tv P d) (seval env x) (cndOK hyp (oeval env x))
  | .makeSlice t x y => mkR P (kindOfT (tv P t)) nm (seval env x) (seval env y) (cndOK hyp (oeval env x) ∧ cndOK hyp (oeval env y))
  | .extract x i => extR (seval env x) i (cndOK hyp (oeval env x))
  | .field t x f => fieldR P (kindOfT (tv P t)) (seval env x) f (cndOK hyp (oeval env x))
  | .makeFunc f first caps => some (⟨[], .fn f (sevs env first.toList) (sevs env caps.toList), []⟩, cndsOK hyp env (first.toList ++ caps.toList))
  | .makeInterface t y => some (⟨[], .iface t (seval env y), []⟩, cndOK hyp (oeval env y) ∧ ByK (P.concrete t = true))
  | .typeAssert y _ t comma => taR (tv P t) t (seval env y) comma (cndOK hyp (oeval env y))
  | .index t y z => ixR P hyp (kindOfT (tv P t)) (seval env y) (seval env z) (cndOK hyp (oeval env y) ∧ cndOK hyp (oeval env z))
  | .lookup t m k comma => lkR P (P.underlying t) (seval env m) (seval env k) comma (cndOK hyp (oeval env m) ∧ cndOK hyp (oeval env k))
  | .call { callee := .builtin .max, args := ⟨[x, y]⟩, argTypes := _ } => mmR true (seval env x) (seval env y) (cndOK hyp (oeval env x) ∧ cndOK hyp (oeval env y))
  | .call { callee := .builtin .min, args := ⟨[x, y]⟩, argTypes := _ } => mmR false (seval env x) (seval env y) (cndOK hyp (oeval env x) ∧ cndOK hyp (oeval env y))
  | .call { callee := .builtin .len, args := ⟨[y]⟩, argTypes := ⟨[t]⟩ } => lenR (kindOfT (tv P t)) (seval env y) (cndOK hyp (oeval env y))
  | .call { callee := .builtin .append, args := ⟨[s, x]⟩, argTypes := ⟨[t, u]⟩ } => appR P (kindOfT (tv P t)) nm box (seval env s) (seval env x) (cndOK hyp (oeval env s) ∧ cndOK hyp (oeval env x) ∧ t = u)
  | .nilCheck y => ncR (seval env y) (cndOK hyp (oeval env y))
  | _ => none

section
variable {P : Program} {cx : Cx} {hyp : Prop} {env : Env} {box : Boxes} {nm : Nat} {o : Oper} {K : OpS → Prop} {S : OpS} {c d : Prop}

theorem ldR_ok {t : TypeId} {y : Operand} (h : ldR (tv P t) (seval env y) box d = some (S, c)) (hc : c) (hK : K S) : d ∧ ldW P env box t y K := by
  unfold ldR at h
  unfold ldW
  split at h
  · rename_i i b off e1 e2
    rw [e1, e2]
    simp only
    split at h
    · rename_i bx e3
      split at h
      · rename_i x e4
        injection h with h; injection h with h1 h2; subst h1 h2
        rw [e3]; simp only [e4]
        exact ⟨hc.1, hc.2, hK⟩
      · cases h
    · cases h
  · rename_i i l e1 e2
    rw [e1, e2]
    simp only
    split at h
    · rename_i x e3
      injection h with h; injection h with h1 h2; subst h1 h2
      simp only [e3]
      exact ⟨hc, hK⟩
    · cases h
  · cases h

theorem stR_ok {t : TypeId} {y u : Operand} (h : stR (tv P t) (seval env y) (seval env u) box d = some (S, c)) (hc : c) (hK : K S) : d ∧ stW P env box t y u K := by
  unfold stR at h
  unfold stW
  split at h
  · rename_i i b off e1 e2
    rw [e1, e2]
    simp only
    split at h
    · rename_i bx e3
      injection h with h; injection h with h1 h2; subst h1 h2
      rw [e3]
      exact ⟨hc.1, hc.2, hK⟩
    · cases h
  · cases h

theorem fldR_ok {s : TypeId} {y : Operand} {f : Nat} (h : fldR P (kindOfT (tv P s)) (seval env y) f d = some (S, c)) (hc : c) (hK : K S) : d ∧ fldW P env s y f K := by
  rw [← kindOfT_eq] at h
  unfold fldR at h
  unfold fldW
  split at h
  · rename_i fs e1
    rw [e1]
    simp only
    split at h
    · rename_i fo ft e2
      rw [e2]
      simp only
      split at h
      · rename_i j e3
        rw [e3]
        simp only
        split at h
        · rename_i e4
          injection h with h; injection h with h1 h2; subst h1 h2
          rw [e4]; exact ⟨hc.1, hc.2, hK⟩
        · rename_i e4
          injection h with h; injection h with h1 h2; subst h1 h2
          rw [e4]; exact ⟨hc.1, hc.2, hK⟩
        · cases h
      · cases h
    · cases h
  · cases h

theorem idxR_ok {t : TypeId} {y z : Operand} (h : idxR P hyp (kindOfT (tv P t)) (seval env y) (seval env z) d = some (S, c)) (hc : c) (hK : K S) : d ∧ idxW P hyp env t y z K := by
  rw [← kindOfT_eq] at h
  unfold idxR at h
  unfold idxW
  split at h
  · rename_i e k i e1 e2
    rw [e1, e2]
    simp only
    split at h
    · rename_i j e3
      rw [e3]
      simp only
      split at h
      · rename_i e4
        injection h with h; injection h with h1 h2; subst h1 h2
        rw [e4]; exact ⟨hc.1, hc.2.1, hc.2.2, hK⟩
      · rename_i e4
        injection h with h; injection h with h1 h2; subst h1 h2
        rw [e4]; exact ⟨hc.1, hc.2.1, hc.2.2, hK⟩
      · cases h
    · cases h
  · rename_i n e k i e1 e2
    rw [e1, e2]
    simp only
    split at h
    · rename_i j e3
      rw [e3]
      simp only
      split at h
      · rename_i e4
        injection h with h; injection h with h1 h2; subst h1 h2
        rw [e4]; exact ⟨hc.1, hc.2, hK⟩
      · rename_i e4
        injection h with h; injection h with h1 h2; subst h1 h2
        rw [e4]; exact ⟨hc.1, hc.2, hK⟩
      · cases h
    · cases h
  · cases h

theorem binR_ok {op : BinOp} {t : TypeId} {cy : Bool} {x y : AV} (h : binR P op t cy x y d = some (S, c)) (hc : c) (hK : K S) : d ∧ binW P op t cy x y K := by
  unfold binR at h
  unfold binW
  split at h
  · split at h
    · rename_i e1
      injection h with h; injection h with h1 h2; subst h1 h2
      simp only [e1]; exact ⟨hc.1, hc.2, hK⟩
    · cases h
  · split at h
    · injection h with h; injection h with h1 h2; subst h1 h2
      exact ⟨hc.1, hc.2, hK⟩
    · injection h with h; injection h with h1 h2; subst h1 h2
      exact ⟨hc.1, hc.2, hK⟩
    · cases h
  · injection h with h; injection h with h1 h2; subst h1 h2
    exact ⟨hc.1, ⟨hc.2.1, isSlK_ok hc.2.2⟩, hK⟩
  · injection h with h; injection h with h1 h2; subst h1 h2
    exact ⟨hc.1, ⟨hc.2.1, isSlK_ok hc.2.2⟩, hK⟩
  · injection h with h; injection h with h1 h2; subst h1 h2
    exact ⟨hc.1, hc.2, hK⟩
  · injection h with h; injection h with h1 h2; subst h1 h2
    exact ⟨hc.1, hc.2, hK⟩
  · split at h
    · rename_i us vs e1 e2
      simp only [e1, e2]
      split at h
      · injection h with h; injection h with h1 h2; subst h1 h2
        exact ⟨hc.1, hc.2.1, hc.2.2, hK⟩
      · injection h with h; injection h with h1 h2; subst h1 h2
        exact ⟨hc.1, hc.2.1, hc.2.2, hK⟩
      · cases h
    · rename_i e0
      split at h
      · rename_i us vs e1 e2
        dsimp only
        split
        · rename_i us' vs' f1 f2
          exact absurd f2 (e0 us' vs' f1)
        · simp only [e1, e2]
          split at h
          · injection h with h; injection h with h1 h2; subst h1 h2
            exact ⟨hc.1, hc.2, hK⟩
          · injection h with h; injection h with h1 h2; subst h1 h2
            exact ⟨hc.1, hc.2, hK⟩
          · cases h
      · cases h
  · cases h

theorem unR_ok {op : UnOp} {x : AV} (h : unR op x d = some (S, c)) (hc : c) (hK : K S) : d ∧ unW op x K := by
  unfold unR at h
  unfold unW
  split at h
  · injection h with h; injection h with h1 h2; subst h1 h2; exact ⟨hc, hK⟩
  · injection h with h; injection h with h1 h2; subst h1 h2; exact ⟨hc, hK⟩
  · cases h

theorem allocR_ok {t : TypeId} (h : allocR (tv P t) nm t = some (S, c)) (hc : c) (hK : K S) : allocW P nm t K := by
  unfold allocR at h
  unfold allocW
  split at h
  · rename_i i e1
    injection h with h; injection h with h1 h2; subst h1 h2
    rw [e1]; exact ⟨hc, hK⟩
  · cases h

theorem buildR_ok {t : TypeId} {parts : Array (Nat × Operand)} (h : buildR P (tv P t) (sevals env parts.toList) d = some (S, c)) (hc : c) (hK : K S) : d ∧ buildW P env t parts K := by
  rw [sevals_eq] at h
  unfold buildR at h
  unfold buildW
  split at h
  · rename_i i e1
    rw [e1]
    simp only
    split at h
    · rename_i fs e2
      rw [e2]
      simp only
      split at h
      · rename_i l e3
        injection h with h; injection h with h1 h2; subst h1 h2
        rw [e3]; exact ⟨hc.1, hc.2.1, hc.2.2, hK⟩
      · cases h
    · rename_i n e e2
      rw [e2]
      simp only
      split at h
      · rename_i j e3
        rw [e3]
        simp only
        split at h
        · rename_i l e4
          injection h with h; injection h with h1 h2; subst h1 h2
          rw [e4]; exact ⟨hc.1, hc.2, hK⟩
        · cases h
      · cases h
    · cases h
  · cases h

theorem bslR_ok {t : TypeId} {len : Nat} {parts : Array (Nat × Operand)} (h : bslR P (kindOfT (tv P t)) nm len (sevals env parts.toList) d = some (S, c)) (hc : c) (hK : K S) : d ∧ bslW P env nm t len parts K := by
  rw [← kindOfT_eq, sevals_eq] at h
  unfold bslR at h
  unfold bslW
  split at h
  · rename_i e e1
    rw [e1]
    simp only
    split at h
    · rename_i j e2
      rw [e2]
      simp only
      split at h
      · rename_i l e3
        injection h with h; injection h with h1 h2; subst h1 h2
        rw [e3]; exact ⟨hc.1, hc.2, hK⟩
      · cases h
    · cases h
  · cases h

theorem sevo_some {y : Option Operand} {v : AV} (h : sevo env y = some v) : ∃ z, y = some z ∧ seval env z = v := by
  cases y with
  | none => cases h
  | some z => exact ⟨z, rfl, by simpa [sevo] using h⟩
theorem sevo_none {y : Option Operand} (h : sevo env y = none) : y = none := by
  cases y with
  | none => rfl
  | some z => cases h

theorem slcR_ok {t : TypeId} {y : Operand} {lo hi mx : Option Operand} (h : slcR P (kindOfT (tv P t)) (seval env y) (sevo env lo) (sevo env hi) (sevo env mx) d = some (S, c)) (hc : c) (hK : K S) : d ∧ slcW P env t y lo hi mx K := by
  rw [← kindOfT_eq] at h
  unfold slcR at h
  unfold slcW
  split at h
  · rename_i e full k l e1 e2
    rw [e1, e2]
    simp only
    split at h
    · rename_i j e3 e4 e5 e6
      injection h with h; injection h with h1 h2; subst h1 h2
      rw [e3]
      refine ⟨hc.1, hc.2, 0, l.length, full, .inl ⟨sevo_none e4, rfl⟩, .inl ⟨sevo_none e5, rfl, sevo_none e6⟩, .inl ⟨sevo_none e6, by simp⟩, Nat.zero_le _, Nat.le_refl _, by simpa using hK⟩
    · rename_i j a e3 e4 e5 e6
      injection h with h; injection h with h1 h2; subst h1 h2
      rw [e3]
      obtain ⟨za, hza, ea⟩ := sevo_some e4
      obtain ⟨h1, h2, h3, h4⟩ := hc
      refine ⟨h1, h2, a.toNat, l.length, full, .inr ⟨za, hza, by rw [ea, Int.toNat_of_nonneg h3]⟩, .inl ⟨sevo_none e5, rfl, sevo_none e6⟩, .inl ⟨sevo_none e6, by simp⟩, by omega, Nat.le_refl _, by simpa using hK⟩
    · rename_i j b e3 e4 e5 e6
      injection h with h; injection h with h1 h2; subst h1 h2
      rw [e3]
      obtain ⟨zb, hzb, eb⟩ := sevo_some e5
      obtain ⟨h1, h2, h3, h4⟩ := hc
      refine ⟨h1, h2, 0, b.toNat, _, .inl ⟨sevo_none e4, rfl⟩, .inr ⟨zb, hzb, by rw [eb, Int.toNat_of_nonneg h3]⟩, .inl ⟨sevo_none e6, rfl⟩, Nat.zero_le _, by omega, by simpa using hK⟩
    · rename_i j a b e3 e4 e5 e6
      injection h with h; injection h with h1 h2; subst h1 h2
      rw [e3]
      obtain ⟨za, hza, ea⟩ := sevo_some e4
      obtain ⟨zb, hzb, eb⟩ := sevo_some e5
      obtain ⟨h1, h2, h3, h4, h5⟩ := hc
      refine ⟨h1, h2, a.toNat, b.toNat, _, .inr ⟨za, hza, by rw [ea, Int.toNat_of_nonneg h3]⟩, .inr ⟨zb, hzb, by rw [eb, Int.toNat_of_nonneg (by omega)]⟩, .inl ⟨sevo_none e6, rfl⟩, by omega, by omega, by simpa using hK⟩
    · rename_i j b m e3 e4 e5 e6
      injection h with h; injection h with h1 h2; subst h1 h2
      rw [e3]
      obtain ⟨zb, hzb, eb⟩ := sevo_some e5
      obtain ⟨zm, hzm, em⟩ := sevo_some e6
      obtain ⟨h1, h2, h3, h4, rfl⟩ := hc
      refine ⟨h1, h2, 0, m.toNat, true, .inl ⟨sevo_none e4, rfl⟩, .inr ⟨zb, hzb, by rw [eb, Int.toNat_of_nonneg h3]⟩, .inr ⟨rfl, zm, hzm, by rw [em, Int.toNat_of_nonneg h3]⟩, Nat.zero_le _, by omega, by simpa using hK⟩
    · rename_i j a b m e3 e4 e5 e6
      injection h with h; injection h with h1 h2; subst h1 h2
      rw [e3]
      obtain ⟨za, hza, ea⟩ := sevo_some e4
      obtain ⟨zb, hzb, eb⟩ := sevo_some e5
      obtain ⟨zm, hzm, em⟩ := sevo_some e6
      obtain ⟨h1, h2, h3, h4, h5, rfl⟩ := hc
      refine ⟨h1, h2, a.toNat, m.toNat, true, .inr ⟨za, hza, by rw [ea, Int.toNat_of_nonneg h3]⟩, .inr ⟨zb, hzb, by rw [eb, Int.toNat_of_nonneg (by omega)]⟩, .inr ⟨rfl, zm, hzm, by rw [em, Int.toNat_of_nonneg (by omega)]⟩, by omega, by omega, by simpa using hK⟩
    · cases h
  · rename_i e bx k off n e1 e2
    rw [e1, e2]
    simp only
    split at h
    · rename_i j e3 e4 e5 e6
      injection h with h; injection h with h1 h2; subst h1 h2
      rw [e3]
      refine ⟨hc.1, hc.2, 0, n, .inl ⟨sevo_none e4, rfl⟩, .inl ⟨sevo_none e5, rfl⟩, sevo_none e6, Nat.zero_le _, Nat.le_refl _, by simpa using hK⟩
    · rename_i j a e3 e4 e5 e6
      injection h with h; injection h with h1 h2; subst h1 h2
      rw [e3]
      obtain ⟨za, hza, ea⟩ := sevo_some e4
      obtain ⟨h1, h2, h3, h4⟩ := hc
      refine ⟨h1, h2, a.toNat, n, .inr ⟨za, hza, by rw [ea, Int.toNat_of_nonneg h3]⟩, .inl ⟨sevo_none e5, rfl⟩, sevo_none e6, by omega, Nat.le_refl _, by simpa using hK⟩
    · rename_i j b e3 e4 e5 e6
      injection h with h; injection h with h1 h2; subst h1 h2
      rw [e3]
      obtain ⟨zb, hzb, eb⟩ := sevo_some e5
      obtain ⟨h1, h2, h3, h4⟩ := hc
      refine ⟨h1, h2, 0, b.toNat, .inl ⟨sevo_none e4, rfl⟩, .inr ⟨zb, hzb, by rw [eb, Int.toNat_of_nonneg h3]⟩, sevo_none e6, Nat.zero_le _, by omega, by simpa using hK⟩
    · rename_i j a b e3 e4 e5 e6
      injection h with h; injection h with h1 h2; subst h1 h2
      rw [e3]
      obtain ⟨za, hza, ea⟩ := sevo_some e4
      obtain ⟨zb, hzb, eb⟩ := sevo_some e5
      obtain ⟨h1, h2, h3, h4, h5⟩ := hc
      refine ⟨h1, h2, a.toNat, b.toNat, .inr ⟨za, hza, by rw [ea, Int.toNat_of_nonneg h3]⟩, .inr ⟨zb, hzb, by rw [eb, Int.toNat_of_nonneg (by omega)]⟩, sevo_none e6, by omega, by omega, by simpa using hK⟩
    · cases h
  · cases h

theorem cvR_ok {s t : TypeId} {x : AV} (h : cvR P s t (tv P t) x d = some (S, c)) (hc : c) (hK : K S) : d ∧ cvW P s t x K := by
  unfold cvR at h
  unfold cvW
  split at h
  · split at h
    · injection h with h; injection h with h1 h2; subst h1 h2
      obtain ⟨g1, g2, g3⟩ := hc
      rw [g2]
      exact ⟨g1, g3, hK⟩
    · cases h
  · cases h

theorem mkR_ok {t : TypeId} {x y : AV} (h : mkR P (kindOfT (tv P t)) nm x y d = some (S, c)) (hc : c) (hK : K S) : d ∧ mkW P nm t x y K := by
  rw [← kindOfT_eq] at h
  unfold mkR at h
  unfold mkW
  split at h
  · rename_i e n m e1
    simp only [e1]
    split at h
    · rename_i j e2
      injection h with h; injection h with h1 h2; subst h1 h2
      simp only [e2]
      exact ⟨hc.1, hc.2, hK⟩
    · cases h
  · cases h

theorem lenR_ok {t : TypeId} {x : AV} (h : lenR (kindOfT (tv P t)) x d = some (S, c)) (hc : c) (hK : K S) : d ∧ lenW P t x K := by
  rw [← kindOfT_eq] at h
  unfold lenR at h
  unfold lenW
  split at h
  · rename_i e e1
    rw [e1]
    simp only
    split at h <;> first | (injection h with h; injection h with h1 h2; subst h1 h2; exact ⟨hc, hK⟩) | cases h
  · cases h

theorem appR_ok {t : TypeId} {s x : Operand} (h : appR P (kindOfT (tv P t)) nm box (seval env s) (seval env x) d = some (S, c)) (hc : c) (hK : K S) : d ∧ appW P env box nm t s x K := by
  rw [← kindOfT_eq] at h
  unfold appR at h
  unfold appW
  split at h
  · rename_i e e1
    rw [e1]
    simp only
    split at h
    · rename_i j e2
      rw [e2]
      simp only
      split at h
      · rename_i fpx m news e3
        rw [e3]
        simp only
        split at h
        · rename_i b0 k n e4
          rw [e4]
          simp only
          split at h
          · rename_i bx e5
            rw [e5]
            simp only
            injection h with h; injection h with h1 h2; subst h1 h2
            obtain ⟨q1, q2, q3, q4, q5, q6⟩ := hc
            exact ⟨q1, ⟨q2, q3⟩, q4, q5, q6, hK⟩
          · cases h
        · rename_i full k l e4
          rw [e4]
          simp only
          injection h with h; injection h with h1 h2; subst h1 h2
          obtain ⟨q1, q2, q3, q4, q5, q6, q7⟩ := hc
          exact ⟨q1, ⟨q2, q3⟩, q4, q5, q6, q7, hK⟩
        · rename_i e4
          rw [e4]
          simp only
          injection h with h; injection h with h1 h2; subst h1 h2
          obtain ⟨q1, q2, q3, q4, q5⟩ := hc
          exact ⟨q1, ⟨q2, q3⟩, q4, q5, hK⟩
        · cases h
      · cases h
    · cases h
  · cases h

theorem extR_ok {x : AV} {i : Nat} (h : extR x i d = some (S, c)) (hc : c) (hK : K S) : d ∧ extW x i K := by
  unfold extR at h
  unfold extW
  split at h
  · split at h
    · rename_i e1
      injection h with h; injection h with h1 h2; subst h1 h2
      simp only [e1]; exact ⟨hc, hK⟩
    · cases h
  · cases h

theorem fieldR_ok {t : TypeId} {x : AV} {f : Nat} (h : fieldR P (kindOfT (tv P t)) x f d = some (S, c)) (hc : c) (hK : K S) : d ∧ fieldW P t x f K := by
  rw [← kindOfT_eq] at h
  unfold fieldR at h
  unfold fieldW
  split at h
  · rename_i fs l e1
    rw [e1]
    simp only
    split at h
    · rename_i fo ft e2
      rw [e2]
      simp only
      split at h
      · rename_i j e3
        rw [e3]
        simp only
        split at h
        · rename_i y e4
          injection h with h; injection h with h1 h2; subst h1 h2
          rw [e4]; exact ⟨hc, hK⟩
        · cases h
      · cases h
    · cases h
  · cases h

theorem pickR_ok {a p q : Operand} (h : pickR hyp (seval env a) (seval env p) (seval env q) (oeval env p) (oeval env q) (cndOK hyp (oeval env a)) = some (S, c)) (hc : c) (hK : K S) : pickW hyp env a p q K := by
  unfold pickR at h
  unfold pickW
  split at h
  · rename_i t e1
    injection h with h; injection h with h1 h2; subst h1 h2
    rw [e1]; exact ⟨hc, hK⟩
  · cases h

theorem lkR_ok {t : TypeId} {x k : AV} {comma : Bool} (h : lkR P (P.underlying t) x k comma d = some (S, c)) (hc : c) (hK : K S) : d ∧ lkW P t x k comma K := by
  unfold lkR at h
  unfold lkW
  split at h
  · rename_i es q n kt et e1
    rw [e1]
    simp only
    split at h
    · rename_i e2
      injection h with h; injection h with h1 h2; subst h1 h2
      rw [e2]; exact ⟨hc.1, hc.2, hK⟩
    · rename_i e2
      split at h
      · rename_i e3
        injection h with h; injection h with h1 h2; subst h1 h2
        rw [e2]; simp only [e3]; exact ⟨hc.1, hc.2, hK⟩
      · cases h
    · cases h
  · cases h

theorem taR_ok {t : TypeId} {x : AV} {comma : Bool} (h : taR (tv P t) t x comma d = some (S, c)) (hc : c) (hK : K S) : d ∧ taW P t x comma K := by
  unfold taR at h
  unfold taW
  split at h
  · rename_i i e1
    rw [e1]
    simp only
    split at h
    · rename_i fs e2
      rw [e2]
      simp only
      split at h
      · split at h
        · rename_i e3
          injection h with h; injection h with h1 h2; subst h1 h2
          simp only [e3]; exact ⟨hc.1, hc.2, hK⟩
        · rename_i e3
          injection h with h; injection h with h1 h2; subst h1 h2
          simp only [e3]; exact ⟨hc.1, hc.2, hK⟩
      · injection h with h; injection h with h1 h2; subst h1 h2
        exact ⟨hc.1, hc.2, hK⟩
      · cases h
    · cases h
  · cases h

theorem ixR_ok {t : TypeId} {x z : AV} (h : ixR P hyp (kindOfT (tv P t)) x z d = some (S, c)) (hc : c) (hK : K S) : d ∧ ixW P hyp t x z K := by
  rw [← kindOfT_eq] at h
  unfold ixR at h
  unfold ixW
  split at h
  · rename_i n e l k i e1
    rw [e1]
    simp only
    split at h
    · rename_i j e2
      rw [e2]
      simp only
      split at h
      · rename_i y e3
        injection h with h; injection h with h1 h2; subst h1 h2
        rw [e3]; exact ⟨hc.1, hc.2, hK⟩
      · cases h
    · cases h
  · cases h

theorem mmR_ok {mx : Bool} {x y : AV} (h : mmR mx x y d = some (S, c)) (hc : c) (hK : K S) : d ∧ mmW mx x y K := by
  unfold mmR at h
  unfold mmW
  split at h
  · injection h with h; injection h with h1 h2; subst h1 h2
    exact ⟨hc.1, hc.2, hK⟩
  · cases h

theorem ops1 {y : Operand} {op : Op} (ho : op.operands = #[y]) (h : cndOK hyp (oeval env y)) : opsOK hyp env op.operands.toList := by rw [ho]; exact ⟨h, trivial⟩
theorem ops2 {y z : Operand} {op : Op} (ho : op.operands = #[y, z]) (h : cndOK hyp (oeval env y) ∧ cndOK hyp (oeval env z)) : opsOK hyp env op.operands.toList := by rw [ho]; exact ⟨h.1, h.2, trivial⟩

theorem opR_ok (h : opR P hyp env box nm o.op = some (S, c)) (hc : c) (hK : K S) : opW P cx hyp env box nm o K := by
  unfold opW
  generalize ho : o.op = op at h
  unfold opR at h
  split at h
  · exact pickR_ok h hc hK
  · injection h with h; injection h with h1 h2; subst h1 h2
    refine ⟨ops1 rfl hc, ?_⟩
    unfold restW; simp only [ho]; exact hK
  · injection h with h; injection h with h1 h2; subst h1 h2
    refine ⟨ops1 rfl hc, ?_⟩
    unfold restW; simp only [ho]; exact hK
  · obtain ⟨h1, h2⟩ := ldR_ok h hc hK
    refine ⟨ops1 rfl h1, ?_⟩
    unfold restW; simp only [ho]; exact h2
  · obtain ⟨h1, h2⟩ := stR_ok h hc hK
    refine ⟨ops2 rfl h1, ?_⟩
    unfold restW; simp only [ho]; exact h2
  · obtain ⟨h1, h2⟩ := fldR_ok h hc hK
    refine ⟨ops1 rfl h1, ?_⟩
    unfold restW; simp only [ho]; exact h2
  · obtain ⟨h1, h2⟩ := idxR_ok h hc hK
    refine ⟨ops2 rfl h1, ?_⟩
    unfold restW; simp only [ho]; exact h2
  · obtain ⟨h1, h2⟩ := binR_ok h hc hK
    refine ⟨ops2 rfl h1, ?_⟩
    unfold restW; simp only [ho]; exact h2
  · obtain ⟨h1, h2⟩ := unR_ok h hc hK
    refine ⟨ops1 rfl h1, ?_⟩
    unfold restW; simp only [ho]; exact h2
  · unfold boxR at h
    injection h with h; injection h with h1 h2; subst h1 h2
    refine ⟨ops1 rfl hc.1, ?_⟩
    unfold restW; simp only [ho]; exact ⟨hc.2, hK⟩
  · refine ⟨trivial, ?_⟩
    unfold restW; simp only [ho]; exact allocR_ok h hc hK
  · obtain ⟨h1, h2⟩ := buildR_ok h hc hK
    refine ⟨?_, ?_⟩
    · rw [seconds_eq] at h1
      exact cnds_ops (by simpa [Op.operands] using h1)
    · unfold restW; simp only [ho]; exact h2
  · obtain ⟨h1, h2⟩ := bslR_ok h hc hK
    refine ⟨?_, ?_⟩
    · rw [seconds_eq] at h1
      exact cnds_ops (by simpa [Op.operands] using h1)
    · unfold restW; simp only [ho]; exact h2
  · rename_i t y lo hi mx
    obtain ⟨h1, h2⟩ := slcR_ok h hc hK
    refine ⟨cnds_ops ?_, ?_⟩
    · cases lo <;> cases hi <;> cases mx <;> simpa [Op.operands] using h1
    · unfold restW; simp only [ho]; exact h2
  · obtain ⟨h1, h2⟩ := cvR_ok h hc hK
    refine ⟨ops1 rfl h1, ?_⟩
    unfold restW; simp only [ho]; exact h2
  · obtain ⟨h1, h2⟩ := mkR_ok h hc hK
    refine ⟨ops2 rfl h1, ?_⟩
    unfold restW; simp only [ho]; exact h2
  · obtain ⟨h1, h2⟩ := extR_ok h hc hK
    refine ⟨ops1 rfl h1, ?_⟩
    unfold restW; simp only [ho]; exact h2
  · obtain ⟨h1, h2⟩ := fieldR_ok h hc hK
    refine ⟨ops1 rfl h1, ?_⟩
    unfold restW; simp only [ho]; exact h2
  · rw [sevs_eq, sevs_eq] at h
    injection h with h; injection h with h1 h2; subst h1 h2
    refine ⟨cnds_ops (by simpa [Op.operands] using hc), ?_⟩
    unfold restW; simp only [ho]; exact hK
  · injection h with h; injection h with h1 h2; subst h1 h2
    refine ⟨ops1 rfl hc.1, ?_⟩
    unfold restW; simp only [ho]; exact ⟨hc.2, hK⟩
  · obtain ⟨h1, h2⟩ := taR_ok h hc hK
    refine ⟨ops1 rfl h1, ?_⟩
    unfold restW; simp only [ho]; exact h2
  · obtain ⟨h1, h2⟩ := ixR_ok h hc hK
    refine ⟨ops2 rfl h1, ?_⟩
    unfold restW; simp only [ho]; exact h2
  · obtain ⟨h1, h2⟩ := lkR_ok h hc hK
    refine ⟨ops2 rfl h1, ?_⟩
    unfold restW; simp only [ho]; exact h2
  · obtain ⟨h1, h2⟩ := mmR_ok h hc hK
    refine ⟨ops2 (by simp [Op.operands, Call.operands]) h1, ?_⟩
    unfold restW; simp only [ho]; exact h2
  · obtain ⟨h1, h2⟩ := mmR_ok h hc hK
    refine ⟨ops2 (by simp [Op.operands, Call.operands]) h1, ?_⟩
    unfold restW; simp only [ho]; exact h2
  · obtain ⟨h1, h2⟩ := lenR_ok h hc hK
    refine ⟨ops1 (by simp [Op.operands, Call.operands]) h1, ?_⟩
    unfold restW; simp only [ho]; exact h2
  · obtain ⟨⟨q1, q2, q3⟩, h2⟩ := appR_ok h hc hK
    refine ⟨ops2 (by simp [Op.operands, Call.operands]) ⟨q1, q2⟩, ?_⟩
    unfold restW; simp only [ho]; exact ⟨q3, h2⟩
  · unfold ncR at h
    split at h
    · rename_i b off e1
      injection h with h; injection h with h1 h2; subst h1 h2
      refine ⟨ops1 rfl hc, ?_⟩
      unfold restW; simp only [ho]
      unfold ncW
      rw [e1]
      exact hK
    · cases h
  · cases h
end
end Go.Proofs.Ytjplhfmakghabaa.V
