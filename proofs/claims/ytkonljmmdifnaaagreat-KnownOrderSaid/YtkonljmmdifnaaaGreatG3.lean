/- What a body must do, reckoned: a formula that a body's text comes to, and that it is enough. The reckoning of an operation is enough. -/
import Derived.Test.YtkonljmmdifnaaaGreatG2
import Derived.Lib.LazyBuf
import Derived.WideLaws
import Derived.Maps.Own
set_option linter.unusedSimpArgs false
set_option linter.unusedVariables false
namespace Go.Proofs.YtkonljmmdifnaaaGreat.V
open Go.RowKit

/-- What kind of type it is. -/
inductive TK where
  | slice (e : TypeId)
  | array (n : Nat) (e : TypeId)
  | struct (fs : List (Nat × TypeId))
  | other

/-- A type, as the rules ask for it. -/
structure TI where
  size : Nat
  agg : Bool
  zero : Value
  bytes : Nat
  k : TK

def isAggD : TypeDesc → Bool
  | .struct _ | .array _ _ => true
  | _ => false

def kindOf : TypeDesc → TK
  | .slice e => .slice e
  | .array n e => .array n e
  | .struct fs => .struct (fs.toList.map fun f => (f.offset, f.type))
  | _ => .other

def tv (P : Program) (t : TypeId) : Option TI :=
  match P.info? t, P.underlying t with
  | some i, some d => match i.zero with
    | some z => some ⟨i.size, isAggD d, z, i.bytes, kindOf d⟩
    | none => none
  | _, _ => none

section
variable {P : Program} {t : TypeId} {i : TI}

theorem tv_spec (h : tv P t = some i) : ∃ (j : TypeInfo) (d : TypeDesc), P.info? t = some j ∧ P.underlying t = some d ∧ j.zero = some i.zero ∧ j.size = i.size ∧ j.bytes = i.bytes ∧ i.agg = isAggD d ∧ i.k = kindOf d := by
  unfold tv at h
  split at h
  · rename_i j d h1 h2
    split at h
    · rename_i z h3
      injection h with h
      subst h
      exact ⟨j, d, h1, h2, h3, rfl, rfl, rfl, rfl⟩
    · cases h
  · cases h

theorem tv_size (h : tv P t = some i) (w : World) : (sizeOf t).run P w = .ok i.size w := by
  obtain ⟨j, d, h1, -, -, h4, -⟩ := tv_spec h
  simp [sizeOf, typeInfo, h1, h4]
theorem tv_zero (h : tv P t = some i) (w : World) : (zeroValue t).run P w = .ok i.zero w := by
  obtain ⟨j, d, h1, -, h3, -⟩ := tv_spec h
  simp [zeroValue, typeInfo, h1, h3]
theorem tv_agg (h : tv P t = some i) (w : World) : (isAgg t).run P w = .ok i.agg w := by
  obtain ⟨j, d, h1, h2, -, -, -, h5, -⟩ := tv_spec h
  simp only [isAgg, Sem.run_bind, run_underlying h2, Result.andThen_ok, h5]
  cases d <;> rfl
theorem tv_slice {e : TypeId} (h : tv P t = some i) (hk : i.k = .slice e) : P.underlying t = some (.slice e) := by
  obtain ⟨j, d, h1, h2, -, -, -, -, h6⟩ := tv_spec h
  rw [hk] at h6
  cases d <;> simp [kindOf] at h6
  rw [h2, h6]
theorem tv_array {e : TypeId} {n : Nat} (h : tv P t = some i) (hk : i.k = .array n e) : P.underlying t = some (.array n e) := by
  obtain ⟨j, d, h1, h2, -, -, -, -, h6⟩ := tv_spec h
  rw [hk] at h6
  cases d <;> simp [kindOf] at h6
  rw [h2, h6.1, h6.2]
theorem tv_struct {fs : List (Nat × TypeId)} (h : tv P t = some i) (hk : i.k = .struct fs) : ∃ fds : Array Field, P.underlying t = some (.struct fds) ∧ fs = fds.toList.map fun f => (f.offset, f.type) := by
  obtain ⟨j, d, h1, h2, -, -, -, -, h6⟩ := tv_spec h
  rw [hk] at h6
  cases d <;> simp [kindOf] at h6
  exact ⟨_, h2, h6⟩
theorem tv_info (h : tv P t = some i) : (P.info? t).map (fun j => (j.zero, j.size, j.bytes)) = some (some i.zero, i.size, i.bytes) := by
  obtain ⟨j, d, h1, -, h3, h4, h5, -⟩ := tv_spec h
  simp [h1, h3, h4, h5]
end

/-! ### The state, written out -/

abbrev Env := List (Nat × AV)
abbrev Boxes := List (Nat × Option Bx)

def eget : Env → Nat → AV
  | [], _ => .any
  | (s, x) :: r, t => if t = s then x else eget r t

def bget (l : Boxes) : Nat → Option Bx := bput (fun _ => none) l

def oeval (env : Env) : Operand → AV
  | .tmp t => eget env t
  | .const v => .v v
  | .global g => .v (.pointer (some ⟨g, 0, none⟩))
  | .func f => .v (.func (.func f) #[] #[])

def mkAS (env : Env) (box : Boxes) (n : Nat) (u : List Nat) : AS := ⟨eget env, bget box, fun b => b < n ∨ b ∈ u⟩

def seval (env : Env) (y : Operand) : AV := (oeval env y).strip

theorem mkAS_eval (env : Env) (box : Boxes) (n : Nat) (u : List Nat) : (mkAS env box n u).eval = oeval env := by
  funext y; cases y <;> rfl

def econs (dst : Option Tmp) (x : AV) (env : Env) : Env := match dst with | some d => (d, x) :: env | none => env

theorem mkAS_app (env : Env) (box : Boxes) (n : Nat) (u : List Nat) (dst : Option Tmp) (S : OpS) : (mkAS env box n u).app dst S = mkAS (econs dst S.x env) (S.tb ++ box) n (S.tb.map (·.1) ++ u) := by
  unfold mkAS AS.app
  congr 1
  · cases dst <;> rfl
  · exact bput_bput box S.tb
  · funext b
    refine propext ⟨?_, ?_⟩
    · rintro ((h | h) | ⟨r, h⟩)
      · exact .inl h
      · exact .inr (by simp [h])
      · exact .inr (by simp; exact .inl ⟨r, h⟩)
    · rintro (h | h)
      · exact .inl (.inl h)
      · simp at h
        rcases h with ⟨r, h⟩ | h
        · exact .inr ⟨r, h⟩
        · exact .inl (.inr h)

/-! ### Operations -/

/-- A step of any kind. -/
def stepW (P : Program) (cx : Cx) (hyp : Prop) (env : Env) (box : Boxes) (nm : Nat) (o : Oper) (K : OpS → Prop) : Prop :=
  ∃ S, (hyp → Yields P cx o (oeval env) S) ∧ (∀ b x, (b, x) ∈ S.fp → bget box b = some x) ∧ (∀ b x, (b, some x) ∈ S.tb → (∃ y, (b, y) ∈ S.fp) ∨ (nm ≤ b ∧ b < nm + 8)) ∧ K S

/-- The same, of operands under their conditions. -/
def stepS (P : Program) (cx : Cx) (hyp : Prop) (env : Env) (box : Boxes) (nm : Nat) (o : Oper) (K : OpS → Prop) : Prop :=
  ∃ S, (hyp → Yields P cx o (seval env) S) ∧ (∀ b x, (b, x) ∈ S.fp → bget box b = some x) ∧ (∀ b x, (b, some x) ∈ S.tb → (∃ y, (b, y) ∈ S.fp) ∨ (nm ≤ b ∧ b < nm + 8)) ∧ K S

def ldW (P : Program) (env : Env) (box : Boxes) (t : TypeId) (y : Operand) (K : OpS → Prop) : Prop :=
  match tv P t, seval env y with
  | some i, .ptr b off => match bget box b with
    | some bx => match ldAV i.agg i.size off bx.cs with
      | some x => bx.cs ≠ [] ∧ K ⟨[(b, bx)], x, []⟩
      | none => False
    | none => False
  | some i, .pp l => match ldAV i.agg i.size 0 l with
    | some x => K ⟨[], x, []⟩
    | none => False
  | _, _ => False

def stW (P : Program) (env : Env) (box : Boxes) (t : TypeId) (y u : Operand) (K : OpS → Prop) : Prop :=
  match tv P t, seval env y with
  | some i, .ptr b off => match bget box b with
    | some bx => ((seval env u).flat = true ∧ (seval env u).cells.length = i.size ∧ off + i.size ≤ bx.cs.length ∧ 0 < i.size) ∧ K ⟨[(b, bx)], .v undef, [(b, some ⟨bx.t, splice bx.cs off (seval env u).cells⟩)]⟩
    | none => False
  | _, _ => False

def fldW (P : Program) (env : Env) (s : TypeId) (y : Operand) (f : Nat) (K : OpS → Prop) : Prop :=
  match (tv P s).map TI.k with
  | some (.struct fs) => match fs[f]? with
    | some (fo, ft) => match tv P ft with
      | some j => j.size ≠ 0 ∧ match seval env y with
        | .ptr b off => K ⟨[], .ptr b (off + fo), []⟩
        | .pp l => K ⟨[], .pp (l.drop fo), []⟩
        | _ => False
      | none => False
    | none => False
  | _ => False

def idxW (P : Program) (hyp : Prop) (env : Env) (t : TypeId) (y z : Operand) (K : OpS → Prop) : Prop :=
  match (tv P t).map TI.k, seval env z with
  | some (.slice e), .v (.int _ i) => match tv P e with
    | some j => match seval env y with
      | .sl _ k l => k = j.size ∧ (hyp → 0 ≤ i ∧ i < l.length) ∧ K ⟨[], .pp ((l[i.toNat]?).getD []), []⟩
      | .osl b k off n => k = j.size ∧ (hyp → 0 ≤ i ∧ i < n) ∧ K ⟨[], .ptr b (off + i.toNat * k), []⟩
      | _ => False
    | none => False
  | some (.array n e), .v (.int _ i) => match tv P e with
    | some j => match seval env y with
      | .ptr b off => (hyp → 0 ≤ i ∧ i < n) ∧ K ⟨[], .ptr b (off + i.toNat * j.size), []⟩
      | .pp l => (hyp → 0 ≤ i ∧ i < n) ∧ K ⟨[], .pp (l.drop (i.toNat * j.size)), []⟩
      | _ => False
    | none => False
  | _, _ => False

def intBin (op : BinOp) (k : IntKind) (a b : Int) : Option AV :=
  match op with
  | .add => some (.v (.int k (k.wrap (a + b))))
  | .sub => some (.v (.int k (k.wrap (a - b))))
  | .mul => some (.v (.int k (k.wrap (a * b))))
  | .eql => some (.v (.bool (a == b)))
  | .neq => some (.v (.bool (a != b)))
  | .lss => some (.v (.bool (decide (a < b))))
  | .leq => some (.v (.bool (decide (a ≤ b))))
  | .gtr => some (.v (.bool (decide (a > b))))
  | .geq => some (.v (.bool (decide (a ≥ b))))
  | .quo => if b = 0 then none else some (.v (.int k (k.wrap (a.tdiv b))))
  | .rem => if b = 0 then none else some (.v (.int k (a.tmod b)))
  | .shr => if b < 0 then none else some (.v (.int k (a.fdiv (2 ^ min b.toNat k.bits))))
  | .and => some (.v (.int k (k.wrap (BitVec.ofInt k.bits a &&& BitVec.ofInt k.bits b).toNat)))
  | .or => some (.v (.int k (k.wrap (BitVec.ofInt k.bits a ||| BitVec.ofInt k.bits b).toNat)))
  | .shl => if b < 0 then none else some (.v (.int k (k.wrap (a * 2 ^ min b.toNat k.bits))))
  | _ => none

/-- Structs of ints: '==' is by the ints. -/
def EqInts (P : Program) (t : TypeId) (n : Nat) : Prop := ∀ xs ys : List Int, xs.length = n → ys.length = n → ∀ w,
  (do eqGuard .eql t (.const undef) (.const undef) (.agg (xs.map (Value.int .i64)).toArray) (.agg (ys.map (Value.int .i64)).toArray); Op.equal t (.agg (xs.map (Value.int .i64)).toArray) (.agg (ys.map (Value.int .i64)).toArray) : Sem Bool).run P w = .ok (decide (xs = ys)) w

def AV.int? : AV → Option Int
  | .v (.int .i64 n) => some n
  | _ => none

/-- Ints and bools, as parts of a struct. -/
inductive Sc where
  | i (n : Int)
  | b (x : Bool)
deriving DecidableEq
def Sc.v : Sc → Value
  | .i n => .int .i64 n
  | .b x => .bool x
def AV.sc? : AV → Option Sc
  | .v (.int .i64 n) => some (.i n)
  | .v (.bool x) => some (.b x)
  | _ => none
def EqScs (P : Program) (t : TypeId) (us vs : List Sc) : Prop := ∀ w,
  (do eqGuard .eql t (.const undef) (.const undef) (.agg (us.map Sc.v).toArray) (.agg (vs.map Sc.v).toArray); Op.equal t (.agg (us.map Sc.v).toArray) (.agg (vs.map Sc.v).toArray) : Sem Bool).run P w = .ok (decide (us = vs)) w

def isConst : Operand → Bool
  | .const _ => true
  | _ => false

def binW (P : Program) (op : BinOp) (t : TypeId) (cy : Bool) (x y : AV) (K : OpS → Prop) : Prop :=
  match x, y with
  | .v (.int k a), .v (.int k' b) => k = k' ∧ match intBin op k a b with | some z => K ⟨[], z, []⟩ | none => False
  | .v (.bool a), .v (.bool b) => P.underlying t = some .bool ∧ match op with | .eql => K ⟨[], .v (.bool (a == b)), []⟩ | .neq => K ⟨[], .v (.bool (a != b)), []⟩ | _ => False
  | .sl _ _ l, .v (.slice none 0 0) => (op = .eql ∧ ∃ e, P.underlying t = some (.slice e)) ∧ K ⟨[], .bit (l = []), []⟩
  | .v (.slice A _ _), .v (.slice none 0 0) => (op = .eql ∧ ∃ e, P.underlying t = some (.slice e)) ∧ K ⟨[], .v (.bool A.isNone), []⟩
  | .iface _ _, .v .nilIface => (op = .eql ∧ P.underlying t = some (.interface (P.methodsAt t))) ∧ K ⟨[], .v (.bool false), []⟩
  | .v .nilIface, .v .nilIface => (op = .eql ∧ cy = true ∧ P.underlying t = some (.interface (P.methodsAt t))) ∧ K ⟨[], .v (.bool true), []⟩
  | .agg xs, .agg ys => match xs.mapM AV.int?, ys.mapM AV.int? with
    | some us, some vs => EqInts P t us.length ∧ us.length = vs.length ∧ match op with | .eql => K ⟨[], .v (.bool (decide (us = vs))), []⟩ | .neq => K ⟨[], .v (.bool (!decide (us = vs))), []⟩ | _ => False
    | _, _ => match xs.mapM AV.sc?, ys.mapM AV.sc? with
      | some us, some vs => EqScs P t us vs ∧ match op with | .eql => K ⟨[], .v (.bool (decide (us = vs))), []⟩ | .neq => K ⟨[], .v (.bool (!decide (us = vs))), []⟩ | _ => False
      | _, _ => False
  | _, _ => False

def cvW (P : Program) (s d : TypeId) (x : AV) (K : OpS → Prop) : Prop :=
  match P.underlying d, x with
  | some (.int k), .v (.int _ n) => (P.underlying s).isSome = true ∧ K ⟨[], .v (.int k (k.wrap n)), []⟩
  | _, _ => False

def unW (op : UnOp) (x : AV) (K : OpS → Prop) : Prop :=
  match op, x with
  | .not, .v (.bool b) => K ⟨[], .v (.bool !b), []⟩
  | .neg, .v (.int k n) => K ⟨[], .v (.int k (k.wrap (0 - n))), []⟩
  | _, _ => False

def boxW (env : Env) (nm : Nat) (t : TypeId) (y : Operand) (K : OpS → Prop) : Prop := (seval env y).flat = true ∧ K ⟨[], .ptr nm 0, [(nm, some ⟨t, (seval env y).cells⟩)]⟩

def allocW (P : Program) (nm : Nat) (t : TypeId) (K : OpS → Prop) : Prop :=
  match tv P t with
  | some i => i.zero.cells.all (·.oneCell') = true ∧ K ⟨[], .ptr nm 0, [(nm, some ⟨t, i.zero.cells.toList.map .v⟩)]⟩
  | none => False

def placesOf (P : Program) (fs : List (Nat × TypeId)) : List (Nat × Nat) := fs.map fun f => (f.1, match tv P f.2 with | some j => j.size | none => 0)
def knownAll (P : Program) (fs : List (Nat × TypeId)) : Bool := fs.all fun f => (tv P f.2).isSome

def buildW (P : Program) (env : Env) (t : TypeId) (parts : Array (Nat × Operand)) (K : OpS → Prop) : Prop :=
  match tv P t with
  | some i => i.zero.cells.all (·.oneCell') = true ∧ match i.k with
    | .struct fs => knownAll P fs = true ∧ match afill (fun j => (placesOf P fs)[j]?) (i.zero.cells.toList.map .v) (parts.toList.map fun p => (p.1, seval env p.2)) with
      | some l => K ⟨[], .agg l, []⟩
      | none => False
    | .array _ e => match tv P e with
      | some j => match afill (fun m => some (m * j.size, j.size)) (i.zero.cells.toList.map .v) (parts.toList.map fun p => (p.1, seval env p.2)) with
        | some l => K ⟨[], .agg l, []⟩
        | none => False
      | none => False
    | _ => False
  | none => False

/-- n zero values, cell by cell. -/
def zerosOf (z : Value) (k n : Nat) : List AV := (List.range (n * k)).map fun i => .v (z.cells.getD (i % k) undef)

def bslW (P : Program) (env : Env) (nm : Nat) (t : TypeId) (len : Nat) (parts : Array (Nat × Operand)) (K : OpS → Prop) : Prop :=
  match (tv P t).map TI.k with
  | some (.slice e) => match tv P e with
    | some j => (j.zero.cells.size = j.size ∧ 0 < j.size ∧ j.zero.cells.all (·.oneCell') = true ∧ len * j.size ≤ 16777216) ∧ match afill (fun m => some (m * j.size, j.size)) (zerosOf j.zero j.size len) (parts.toList.map fun p => (p.1, seval env p.2)) with
      | some l => K ⟨[], .osl nm j.size 0 len, [(nm, some ⟨e, l⟩)]⟩
      | none => False
    | none => False
  | _ => False

def slcW (P : Program) (env : Env) (t : TypeId) (y : Operand) (lo hi mx : Option Operand) (K : OpS → Prop) : Prop :=
  match (tv P t).map TI.k, seval env y with
  | some (.slice e), .sl full k l => (match tv P e with | some j => k = j.size | none => False) ∧ ∃ a b : Nat, ∃ f' : Bool, ((lo = none ∧ a = 0) ∨ ∃ z, lo = some z ∧ seval env z = .v (.int .i64 (a : Int))) ∧ ((hi = none ∧ b = l.length ∧ mx = none) ∨ ∃ z, hi = some z ∧ seval env z = .v (.int .i64 (b : Int))) ∧
      ((mx = none ∧ f' = (full && decide (b = l.length))) ∨ (f' = true ∧ ∃ z, mx = some z ∧ seval env z = .v (.int .i64 (b : Int)))) ∧ a ≤ b ∧ b ≤ l.length ∧ K ⟨[], .sl f' k ((l.take b).drop a), []⟩
  | some (.slice e), .osl bx k off n => (match tv P e with | some j => k = j.size | none => False) ∧ ∃ a b : Nat, ((lo = none ∧ a = 0) ∨ ∃ z, lo = some z ∧ seval env z = .v (.int .i64 (a : Int))) ∧ ((hi = none ∧ b = n) ∨ ∃ z, hi = some z ∧ seval env z = .v (.int .i64 (b : Int))) ∧
      mx = none ∧ a ≤ b ∧ b ≤ n ∧ K ⟨[], .osl bx k (off + a * k) (b - a), []⟩
  | some (.array n e), .pp l => lo = none ∧ hi = none ∧ mx = none ∧ (match tv P e with | some j => j.size = 1 | none => False) ∧ n ≤ l.length ∧ n ≤ maxLen ∧ K ⟨[], .sl false 1 ((l.take n).map fun x => [x]), []⟩
  | _, _ => False

/-- make: the known cells are the first n; those behind hold zeros, too. -/
def mkW (P : Program) (nm : Nat) (t : TypeId) (x y : AV) (K : OpS → Prop) : Prop :=
  match (tv P t).map TI.k, x, y with
  | some (.slice e), .v (.int .i64 n), .v (.int .i64 m) => match tv P e with
    | some j => (j.zero.cells.size = j.size ∧ 0 < j.size ∧ j.zero.cells.all (·.oneCell') = true ∧ 0 ≤ n ∧ n ≤ m ∧ m.toNat * j.bytes ≤ 140737488355328 ∧ m.toNat ≤ maxLen) ∧ K ⟨[], .osl nm j.size 0 n.toNat, [(nm, some ⟨e, zerosOf j.zero j.size n.toNat⟩)]⟩
    | none => False
  | _, _, _ => False

def lenW (P : Program) (t : TypeId) (x : AV) (K : OpS → Prop) : Prop :=
  match (tv P t).map TI.k with
  | some (.slice _) => match x with
    | .sl _ _ l => K ⟨[], int l.length, []⟩
    | .osl _ _ _ n => K ⟨[], int n, []⟩
    | .v (.slice _ n _) => K ⟨[], int n, []⟩
    | _ => False
  | _ => False

/-- The source of an append: of which boxes, how many, which cells. -/
def srcOf (box : Boxes) (k : Nat) : AV → Option (List (Nat × Bx) × Nat × List AV)
  | .sl _ k' l => if k' = k then some ([], l.length, l.flatten) else none
  | .osl b k' off m => if k' = k then (match bget box b with | some bx => if off + m * k ≤ bx.cs.length then some ([(b, bx)], m, (bx.cs.drop off).take (m * k)) else none | none => none) else none
  | .v (.slice none 0 _) => some ([], 0, [])
  | _ => none

def appW (P : Program) (env : Env) (box : Boxes) (nm : Nat) (t : TypeId) (s x : Operand) (K : OpS → Prop) : Prop :=
  match (tv P t).map TI.k with
  | some (.slice e) => match tv P e with
    | some j => (j.zero.cells.size = j.size ∧ 0 < j.size) ∧ match srcOf box j.size (seval env x) with
      | some (fpx, m, news) => (fpx.all (fun p => decide (p.1 ≠ nm)) = true) ∧ match seval env s with
        | .osl b0 k 0 n => match bget box b0 with
          | some bx => (k = j.size ∧ bx.cs.length = n * k ∧ bx.t = e ∧ nm ≠ b0) ∧ (n + m ≤ maxLen ∧ (n + m) * j.bytes ≤ 140737488355328) ∧ K ⟨(b0, bx) :: fpx, .osl nm k 0 (n + m), [(b0, none), (nm, some ⟨e, bx.cs ++ news⟩)]⟩
          | none => False
        | .sl full k l => (full = true ∧ k = j.size) ∧ (0 < m ∨ l = []) ∧ (l.length + m ≤ maxLen ∧ (l.length + m) * j.bytes ≤ 140737488355328) ∧ K ⟨fpx, .osl nm k 0 (l.length + m), [(nm, some ⟨e, l.flatten ++ news⟩)]⟩
        | .v (.slice none 0 0) => (m ≤ maxLen ∧ m * j.bytes ≤ 140737488355328) ∧ K ⟨fpx, .osl nm j.size 0 m, [(nm, some ⟨e, news⟩)]⟩
        | _ => False
      | none => False
    | none => False
  | _ => False

/-- A value of a map, as it is known. -/
def ofV : Value → AV
  | .func f ⟨[]⟩ ⟨[]⟩ => .fn f [] []
  | v => .v v

def lkW (P : Program) (t : TypeId) (x k : AV) (comma : Bool) (K : OpS → Prop) : Prop :=
  match x, k, P.underlying t with
  | .mp es _, .v (.int .i64 n), some (.map kt et) => (comma = true ∧ P.underlying kt = some (.int .i64)) ∧ match Instr.findNow (.int .i64) (.int .i64 n) es.toList 0 with
    | some (some (_, v)) => K ⟨[], .tup [ofV v, .v (.bool true)], []⟩
    | some none => match tv P et with
      | some i => K ⟨[], .tup [.v i.zero, .v (.bool false)], []⟩
      | none => False
    | none => False
  | _, _, _ => False

def taW (P : Program) (t : TypeId) (x : AV) (comma : Bool) (K : OpS → Prop) : Prop :=
  match tv P t with
  | some i => (comma = true) ∧ match i.k with
    | .struct _ => match x with
      | .iface s y => match Nat.beq s t with
        | true => K ⟨[], .tup [y, .v (.bool true)], []⟩
        | false => K ⟨[], .tup [.v i.zero, .v (.bool false)], []⟩
      | .v .nilIface => K ⟨[], .tup [.v i.zero, .v (.bool false)], []⟩
      | _ => False
    | _ => False
  | none => False

def ixW (P : Program) (hyp : Prop) (t : TypeId) (x z : AV) (K : OpS → Prop) : Prop :=
  match (tv P t).map TI.k, x, z with
  | some (.array n e), .agg l, .v (.int _ i) => match tv P e with
    | some j => match ldAV j.agg j.size (i.toNat * j.size) l with
      | some y => (hyp → 0 ≤ i ∧ i < n) ∧ K ⟨[], y, []⟩
      | none => False
    | none => False
  | _, _, _ => False

def mmW (mx : Bool) (x y : AV) (K : OpS → Prop) : Prop :=
  match x, y with
  | .v (.int k a), .v (.int k' b) => k = k' ∧ K ⟨[], .v (.int k (cond mx (max a b) (min a b))), []⟩
  | _, _ => False

def extW (x : AV) (i : Nat) (K : OpS → Prop) : Prop := match x with | .tup l => (match l[i]? with | some y => K ⟨[], y, []⟩ | none => False) | _ => False

def fieldW (P : Program) (t : TypeId) (x : AV) (f : Nat) (K : OpS → Prop) : Prop :=
  match (tv P t).map TI.k, x with
  | some (.struct fs), .agg l => match fs[f]? with
    | some (fo, ft) => match tv P ft with
      | some j => match ldAV j.agg j.size fo l with
        | some y => K ⟨[], y, []⟩
        | none => False
      | none => False
    | none => False
  | _, _ => False

/-- A call of a Go function at these arguments. -/
def CallW (P : Program) (cx : Cx) (hyp : Prop) (env : Env) (box : Boxes) (nm : Nat) (f : FuncId) (l : List AV) (o : Oper) (K : OpS → Prop) : Prop :=
  Enters P o (seval env) f l → stepS P cx hyp env box nm o K

/-- Another step. -/
def OtherW (P : Program) (cx : Cx) (hyp : Prop) (env : Env) (box : Boxes) (nm : Nat) (o : Oper) (K : OpS → Prop) : Prop := stepS P cx hyp env box nm o K

def cndOK (hyp : Prop) : AV → Prop
  | .iff c _ => hyp → c = true
  | _ => True

def cndOK2 (hyp : Prop) (t b : Bool) : AV → Prop
  | .iff c _ => hyp → t = b → c = true
  | _ => True

def opsOK (hyp : Prop) (env : Env) : List Operand → Prop
  | [] => True
  | y :: l => cndOK hyp (oeval env y) ∧ opsOK hyp env l

theorem cndOK_cnd {hyp : Prop} {x : AV} (h : cndOK hyp x) : hyp → x.cnd = true := by
  cases x <;> simp [AV.cnd]
  exact h
theorem cndOK2_cnd {hyp : Prop} {t b : Bool} {x : AV} (h : cndOK2 hyp t b x) : hyp → t = b → x.cnd = true := by
  cases x <;> simp [AV.cnd]
  exact h

theorem imp1 (t : Bool) : (t = true → t = true) = True := by simp
theorem imp2 (t : Bool) : (t = false → (!t) = true) = True := by simp
theorem imp3 (h : Prop) (t : Bool) : (h → t = true → t = true) = True := by simp
theorem imp4 (h : Prop) (t : Bool) : (h → t = false → (!t) = true) = True := by simp
theorem imp5 (s t : Bool) : ((s && t) = true → s = true) = True := by simp; intro h _; exact h
theorem imp6 (s t : Bool) : ((s && t) = true → t = true) = True := by simp
theorem imp7 (h : Prop) (s t : Bool) : (h → t = true → (s && t) = true) = (h → t = true → s = true) := by
  refine propext ⟨fun k hh ht => ?_, fun k hh ht => ?_⟩
  · have := k hh ht; simp at this; exact this.1
  · simp [k hh ht, ht]
theorem imp8 (h : Prop) (s t : Bool) : (h → t = false → (s && !t) = true) = (h → t = false → s = true) := by
  refine propext ⟨fun k hh ht => ?_, fun k hh ht => ?_⟩
  · have := k hh ht; simp at this; exact this.1
  · simp [k hh ht, ht]
theorem imp9 (g : Bool) (t : Prop) : (g = true → t → g = true) = True := by simp; intro h _; exact h

def pickW (hyp : Prop) (env : Env) (c p q : Operand) (K : OpS → Prop) : Prop :=
  match seval env c with
  | .v (.bool t) => (cndOK hyp (oeval env c) ∧ cndOK2 hyp t true (oeval env p) ∧ cndOK2 hyp t false (oeval env q)) ∧ K ⟨[], pickAV t (seval env p) (seval env q), []⟩
  | _ => False

def callOpW (P : Program) (cx : Cx) (hyp : Prop) (env : Env) (box : Boxes) (nm : Nat) (c : Call) (o : Oper) (K : OpS → Prop) : Prop :=
  match c.callee, c.args.toList, c.argTypes.toList with
  | .value (.func f), _, _ => CallW P cx hyp env box nm f (c.args.toList.map (seval env)) o K
  | .value y, _, _ => match seval env y with
    | .fn (.func f) first caps => CallW P cx hyp env box nm f (first ++ c.args.toList.map (seval env) ++ caps) o K
    | .v (.func (.func f) ⟨[]⟩ ⟨[]⟩) => CallW P cx hyp env box nm f (c.args.toList.map (seval env)) o K
    | _ => OtherW P cx hyp env box nm o K
  | .builtin .len, [y], [t] => lenW P t (seval env y) K
  | .builtin .max, [x, y], _ => mmW true (seval env x) (seval env y) K
  | .builtin .min, [x, y], _ => mmW false (seval env x) (seval env y) K
  | .builtin .append, [s, x], [t, u] => t = u ∧ appW P env box nm t s x K
  | _, _, _ => OtherW P cx hyp env box nm o K

/-- A pointer that is none of nil. -/
def ncW (x : AV) (K : OpS → Prop) : Prop := match x with | .ptr b off => K ⟨[], .ptr b off, []⟩ | _ => False

def restW (P : Program) (cx : Cx) (hyp : Prop) (env : Env) (box : Boxes) (nm : Nat) (o : Oper) (K : OpS → Prop) : Prop :=
  match o.op with
  | .move y => K ⟨[], seval env y, []⟩
  | .assign y => K ⟨[], seval env y, []⟩
  | .load t y => ldW P env box t y K
  | .store t y u => stW P env box t y u K
  | .fieldAddr s y f => fldW P env s y f K
  | .indexAddr t y z => idxW P hyp env t y z K
  | .binOp op t x y _ => binW P op t (isConst y) (seval env x) (seval env y) K
  | .unOp op _ x => unW op (seval env x) K
  | .convert s d x => cvW P s d (seval env x) K
  | .box t y => boxW env nm t y K
  | .alloc t => allocW P nm t K
  | .build t parts => buildW P env t parts K
  | .buildSlice t len parts => bslW P env nm t len parts K
  | .slice t y lo hi mx => slcW P env t y lo hi mx K
  | .makeSlice t x y => mkW P nm t (seval env x) (seval env y) K
  | .extract x i => extW (seval env x) i K
  | .makeInterface t y => P.concrete t = true ∧ K ⟨[], .iface t (seval env y), []⟩
  | .typeAssert y _ t comma => taW P t (seval env y) comma K
  | .index t y z => ixW P hyp t (seval env y) (seval env z) K
  | .lookup t m k comma => lkW P t (seval env m) (seval env k) comma K
  | .field t x f => fieldW P t (seval env x) f K
  | .makeFunc f first caps => K ⟨[], .fn f (first.toList.map (seval env)) (caps.toList.map (seval env)), []⟩
  | .call c => callOpW P cx hyp env box nm c o K
  | .nilCheck y => ncW (seval env y) K
  | _ => OtherW P cx hyp env box nm o K

def opW (P : Program) (cx : Cx) (hyp : Prop) (env : Env) (box : Boxes) (nm : Nat) (o : Oper) (K : OpS → Prop) : Prop :=
  match o.op with
  | .pick c p q => pickW hyp env c p q K
  | op => opsOK hyp env op.operands.toList ∧ restW P cx hyp env box nm o K

end Go.Proofs.YtkonljmmdifnaaaGreat.V
set_option linter.unusedSimpArgs false
set_option linter.unusedVariables false
namespace Go.Proofs.YtkonljmmdifnaaaGreat.V
open Go.RowKit

section
variable {P : Program} {cx : Cx} {hyp : Prop} {env : Env} {box : Boxes} {nm : Nat} {o : Oper} {K : OpS → Prop}

theorem stepH_val {x : AV} (h : hyp → Yields P cx o (seval env) ⟨[], x, []⟩) (hK : K ⟨[], x, []⟩) : stepS P cx hyp env box nm o K := ⟨_, h, by simp, by simp, hK⟩

theorem stepW_val {x : AV} (h : Yields P cx o (seval env) ⟨[], x, []⟩) (hK : K ⟨[], x, []⟩) : stepS P cx hyp env box nm o K := stepH_val (fun _ => h) hK

theorem ldW_sound {t : TypeId} {y : Operand} (ho : o.op = .load t y) (h : ldW P env box t y K) : stepS P cx hyp env box nm o K := by
  unfold ldW at h
  split at h
  · rename_i i b off hi hy
    split at h
    · rename_i bx hb
      split at h
      · rename_i x hx
        exact ⟨_, fun _ => y_load ho (tv_agg hi) (tv_size hi) hy h.1 hx, by simpa using hb, by simp, h.2⟩
      · exact h.elim
    · exact h.elim
  · rename_i i l hi hy
    split at h
    · rename_i x hx
      exact stepW_val (y_load_pp ho (tv_agg hi) (tv_size hi) hy hx) h
    · exact h.elim
  · exact h.elim

theorem stW_sound {t : TypeId} {y u : Operand} (ho : o.op = .store t y u) (h : stW P env box t y u K) : stepS P cx hyp env box nm o K := by
  unfold stW at h
  split at h
  · rename_i i b off hi hy
    split at h
    · rename_i bx hb
      obtain ⟨⟨h1, h2, h3, h4⟩, h5⟩ := h
      exact ⟨_, fun _ => y_store ho (tv_size hi) hy h1 h2 h3 h4, by simpa using hb, fun b' x hx => .inl (by simp at hx; exact ⟨bx, by simp [hx.1]⟩), h5⟩
    · exact h.elim
  · exact h.elim

theorem fldW_sound {s : TypeId} {y : Operand} {f : Nat} (ho : o.op = .fieldAddr s y f) (h : fldW P env s y f K) : stepS P cx hyp env box nm o K := by
  unfold fldW at h
  split at h
  · rename_i fs hk
    simp only [Option.map_eq_some_iff] at hk
    obtain ⟨i, hi, hk⟩ := hk
    obtain ⟨fds, hu, rfl⟩ := tv_struct hi hk
    split at h
    · rename_i fo ft hf
      simp only [List.getElem?_map, Option.map_eq_some_iff] at hf
      obtain ⟨fd, hfd, he⟩ := hf
      injection he with e1 e2
      subst e1 e2
      have hfd' : fds[f]? = some fd := by simpa using hfd
      split at h
      · rename_i j hj
        obtain ⟨h0, h⟩ := h
        split at h
        · rename_i b off hy
          exact stepW_val (y_fieldAddr ho hu hfd' (tv_size hj) h0 hy) h
        · rename_i l hy
          exact stepW_val (y_fieldAddr_pp ho hu hfd' (tv_size hj) h0 hy) h
        · exact h.elim
      · exact h.elim
    · exact h.elim
  · exact h.elim

theorem y_indexAddr_pp {ρ : Operand → AV} {t e : TypeId} {y z : Operand} {k n : Nat} {l : List AV} {kd : IntKind} {i : Int} (ho : o.op = .indexAddr t y z) (ht : P.underlying t = some (.array n e)) (hk : ∀ w, (sizeOf e).run P w = .ok k w)
    (hy : ρ y = .pp l) (hz : ρ z = .v (.int kd i)) (h0 : 0 ≤ i) (hn : i < n) : Yields P cx o ρ ⟨[], .pp (l.drop (i.toNat * k)), []⟩ := by
  refine yields_val fun ι M a w _ hops => ?_
  have h1 := hops y (mem_ops ho (by simp [Op.operands]))
  have h2 := hops z (mem_ops ho (by simp [Op.operands]))
  rw [hy] at h1
  rw [hz] at h2
  obtain ⟨g, off, hv⟩ := h1.pp_addr
  rw [hv] at h1
  exact ⟨_, by simp [execOp, ho, Instr.indexAt, run_underlying ht, hv, h2.ofV, asIntOf, Instr.sureAddr, hk, h0, hn, addr_add'], h1.pp_drop⟩

theorem idxW_sound {t : TypeId} {y z : Operand} (ho : o.op = .indexAddr t y z) (h : idxW P hyp env t y z K) : stepS P cx hyp env box nm o K := by
  unfold idxW at h
  split at h
  · rename_i e kd i hk hz
    simp only [Option.map_eq_some_iff] at hk
    obtain ⟨ti, hi, hk⟩ := hk
    split at h
    · rename_i j hj
      split at h
      · rename_i full k l hy
        obtain ⟨rfl, h1, h3⟩ := h
        refine stepH_val (fun hh => ?_) h3
        obtain ⟨g1, g2⟩ := h1 hh
        have hlt : i.toNat < l.length := by omega
        rw [List.getElem?_eq_getElem hlt, Option.getD_some]
        exact y_indexAddr ho (tv_slice hi hk) (tv_size hj) hy hz g1 (List.getElem?_eq_getElem hlt)
      · rename_i b k off n hy
        obtain ⟨rfl, h1, h3⟩ := h
        exact stepH_val (fun hh => y_indexAddr_osl ho (tv_slice hi hk) (tv_size hj) hy hz (h1 hh).1 (h1 hh).2) h3
      · exact h.elim
    · exact h.elim
  · rename_i n e kd i hk hz
    simp only [Option.map_eq_some_iff] at hk
    obtain ⟨ti, hi, hk⟩ := hk
    split at h
    · rename_i j hj
      split at h
      · rename_i b off hy
        exact stepH_val (fun hh => y_indexAddr_arr (k := j.size) ho (tv_array hi hk) (tv_size hj) hy hz (h.1 hh).1 (h.1 hh).2) h.2
      · rename_i l hy
        exact stepH_val (fun hh => y_indexAddr_pp (k := j.size) ho (tv_array hi hk) (tv_size hj) hy hz (h.1 hh).1 (h.1 hh).2) h.2
      · exact h.elim
    · exact h.elim
  · exact h.elim

theorem exact2 {x y : Operand} {u v : Value} (hx : seval env x = .v u) (hy : seval env y = .v v) (σ : Operand → Value) (h1 : σ x = u) (h2 : σ y = v) : ∀ z, z ∈ (#[x, y] : Array Operand) → (seval env z).exact = some (σ z) := by
  intro z hz
  simp at hz
  rcases hz with rfl | rfl
  · rw [hx, h1]; rfl
  · rw [hy, h2]; rfl

theorem y_bin {op : BinOp} {t t' : TypeId} {x y : Operand} {u v r : Value} (ho : o.op = .binOp op t x y t') (hx : seval env x = .v u) (hy : seval env y = .v v)
    (hr : ∀ w, (do eqGuard op t x y u v; binOp op t u v : Sem Value).run P w = .ok r w) : Yields P cx o (seval env) ⟨[], .v r, []⟩ := by
  refine yields_val fun ι M a w _ hops => ⟨r, ?_, .d (.v _)⟩
  have h1 := hops x (mem_ops ho (by simp [Op.operands]))
  have h2 := hops y (mem_ops ho (by simp [Op.operands]))
  rw [hx] at h1
  rw [hy] at h2
  have he : execOp a.eval o = (do let r ← (do eqGuard op t x y u v; binOp op t u v); pure (.value r)) := by simp only [execOp, ho, h1.ofV, h2.ofV]
  rw [he, Sem.run_bind, hr w]
  rfl

theorem mapM_int {l : List AV} {us : List Int} (h : l.mapM AV.int? = some us) : l = us.map fun n => .v (.int .i64 n) := by
  induction l generalizing us with
  | nil => simp at h; subst h; rfl
  | cons a l ih =>
    simp only [List.mapM_cons, Option.bind_eq_bind] at h
    cases ha : a.int? with
    | none => rw [ha] at h; simp at h
    | some n =>
      rw [ha] at h
      cases hl : l.mapM AV.int? with
      | none => rw [hl] at h; simp at h
      | some ns =>
        rw [hl] at h
        simp at h
        subst h
        have hav : a = .v (.int .i64 n) := by
          unfold AV.int? at ha
          split at ha
          · injection ha with ha; subst ha; rfl
          · cases ha
        rw [List.map_cons, ← ih hl, hav]

theorem RepA.ints {ι : Nat → Option Nat} {M : Nat → Prop} {w : World} {v : Value} {us : List Int} (h : RepA ι M w v (.agg (us.map fun n => .v (.int .i64 n)))) : v = .agg (us.map (Value.int .i64)).toArray := by
  obtain ⟨vs, rfl, hn, hh⟩ := h.agg'
  congr 1
  apply Array.ext_getElem?
  intro i
  by_cases hi : i < us.length
  · have h1 : i < vs.size := by rw [hn]; simpa using hi
    have := hh i vs[i] (.v (.int .i64 us[i])) (Array.getElem?_eq_getElem h1) (by simp [hi])
    rw [Array.getElem?_eq_getElem h1, this.ofV]
    simp [hi]
  · rw [Array.getElem?_eq_none (by rw [hn]; simp; omega), Array.getElem?_eq_none (by simp; omega)]

theorem mapM_sc {l : List AV} {us : List Sc} (h : l.mapM AV.sc? = some us) : l = us.map fun n => .v n.v := by
  induction l generalizing us with
  | nil => simp at h; subst h; rfl
  | cons a l ih =>
    simp only [List.mapM_cons, Option.bind_eq_bind] at h
    cases ha : a.sc? with
    | none => rw [ha] at h; simp at h
    | some n =>
      rw [ha] at h
      cases hl : l.mapM AV.sc? with
      | none => rw [hl] at h; simp at h
      | some ns =>
        rw [hl] at h
        simp at h
        subst h
        have hav : a = .v n.v := by
          unfold AV.sc? at ha
          split at ha
          · injection ha with ha; subst ha; rfl
          · injection ha with ha; subst ha; rfl
          · cases ha
        rw [List.map_cons, ← ih hl, hav]

theorem RepA.scs {ι : Nat → Option Nat} {M : Nat → Prop} {w : World} {v : Value} {us : List Sc} (h : RepA ι M w v (.agg (us.map fun n => .v n.v))) : v = .agg (us.map Sc.v).toArray := by
  obtain ⟨vs, rfl, hn, hh⟩ := h.agg'
  congr 1
  apply Array.ext_getElem?
  intro i
  by_cases hi : i < us.length
  · have h1 : i < vs.size := by rw [hn]; simpa using hi
    have := hh i vs[i] (.v us[i].v) (Array.getElem?_eq_getElem h1) (by simp [hi])
    rw [Array.getElem?_eq_getElem h1, this.ofV]
    simp [hi]
  · rw [Array.getElem?_eq_none (by rw [hn]; simp; omega), Array.getElem?_eq_none (by simp; omega)]

theorem RepA.iface' {ι : Nat → Option Nat} {M : Nat → Prop} {w : World} {v : Value} {t : TypeId} {x : AV} (h : RepA ι M w v (.iface t x)) : ∃ u, v = .iface t u := by
  cases h with
  | d h => cases h
  | iface h => exact ⟨_, rfl⟩

theorem binW_sound {op : BinOp} {t t' : TypeId} {x y : Operand} (ho : o.op = .binOp op t x y t') (h : binW P op t (isConst y) (seval env x) (seval env y) K) : stepS P cx hyp env box nm o K := by
  unfold binW at h
  split at h
  · rename_i k a k' b hx hy
    obtain ⟨rfl, h⟩ := h
    split at h
    · rename_i z hz
      refine stepW_val ?_ h
      cases op <;> simp [intBin] at hz <;> (first | subst hz | (obtain ⟨hb, hz⟩ := hz; subst hz)) <;> exact y_bin ho hx hy (fun w => by simp_all [eqGuard, binOp, Op.intArith, Op.intCmp, Op.intDiv, Op.shift, Op.intBits, Int.not_lt] <;> (try (intro h; omega)))
    · exact h.elim
  · rename_i a b hx hy
    obtain ⟨hu, h⟩ := h
    cases op <;> simp only at h <;> try exact h.elim
    · refine stepW_val (y_bin ho hx hy fun w => ?_) h
      have he : (Op.equal t (.bool a) (.bool b)).run P w = .ok (a == b) w := by
        show (Op.equalIn (9999 + 1) t (.bool a) (.bool b)).run P w = _
        rw [Op.equalIn]
        simp [run_underlying hu]
      have hb : binOp .eql t (.bool a) (.bool b) = (do pure (.bool (← Op.equal t (.bool a) (.bool b)))) := rfl
      have hg : eqGuard .eql t x y (.bool a) (.bool b) = pure () := rfl
      rw [hb, hg, Sem.run_bind, Sem.run_pure, Result.andThen_ok, Sem.run_bind, he]
      rfl
    · refine stepW_val (y_bin ho hx hy fun w => ?_) h
      have he : (Op.equal t (.bool a) (.bool b)).run P w = .ok (a == b) w := by
        show (Op.equalIn (9999 + 1) t (.bool a) (.bool b)).run P w = _
        rw [Op.equalIn]
        simp [run_underlying hu]
      have hb : binOp .neq t (.bool a) (.bool b) = (do pure (.bool (!(← Op.equal t (.bool a) (.bool b))))) := rfl
      have hg : eqGuard .neq t x y (.bool a) (.bool b) = pure () := rfl
      rw [hb, hg, Sem.run_bind, Sem.run_pure, Result.andThen_ok, Sem.run_bind, he]
      rfl
  · rename_i f k l hx hy
    obtain ⟨⟨rfl, e, hu⟩, h⟩ := h
    refine stepW_val (yields_val fun ι M a w _ hops => ?_) h
    have g1 := hops x (mem_ops ho (by simp [Op.operands]))
    have g2 := (hops y (mem_ops ho (by simp [Op.operands])))
    rw [hx] at g1
    rw [hy] at g2
    have e2 := g2.ofV
    have g3 := g1.sl'
    generalize e1 : a.eval x = vx at g3
    cases g3 with
    | @sl A n cap _ _ _ b off xx hn hc hm hf hk hA hl hxx =>
      refine ⟨.bool A.isNone, ?_, .bit fun hb => ?_⟩
      · have hrun := Lib.run_eql_slice_nil w t e A n cap 0 0 hu
        have hgd : eqGuard .eql t x y (.slice A n cap) (.slice none 0 0) = pure () := rfl
        simp only [execOp, ho, e1, e2, hgd]
        simp [hrun]
      · refine Classical.byContradiction fun hne => ?_
        rw [(hA hne).1] at hb
        cases hb
  · rename_i A n c hx hy
    obtain ⟨⟨rfl, e, hu⟩, h⟩ := h
    refine stepW_val (y_bin ho hx hy fun w => ?_) h
    have hrun := Lib.run_eql_slice_nil w t e A n c 0 0 hu
    have hgd : eqGuard .eql t x y (.slice A n c) (.slice none 0 0) = pure () := rfl
    rw [hgd, Sem.run_bind, Sem.run_pure, Result.andThen_ok, hrun]
  · rename_i ti xi hx hy
    obtain ⟨⟨rfl, hu⟩, h⟩ := h
    refine stepW_val (yields_val fun ι M a w _ hops => ?_) h
    have g1 := hops x (mem_ops ho (by simp [Op.operands]))
    have g2 := (hops y (mem_ops ho (by simp [Op.operands])))
    rw [hx] at g1
    rw [hy] at g2
    have e2 := g2.ofV
    obtain ⟨u, e1⟩ := g1.iface'
    refine ⟨.bool false, ?_, .d (.v _)⟩
    have hrun := run_equal_held_nil (w := w) t ti u hu
    have hgd : eqGuard .eql t x y (.iface ti u) .nilIface = pure () := rfl
    simp only [execOp, ho, e1, e2, hgd]
    simp [binOp, hrun]
  · rename_i hx hy
    obtain ⟨⟨rfl, hcy, hu⟩, h⟩ := h
    obtain ⟨cv, rfl⟩ : ∃ cv, y = .const cv := by
      cases y with
      | const cv => exact ⟨cv, rfl⟩
      | _ => simp [isConst] at hcy
    refine stepW_val (y_bin ho hx hy fun w => ?_) h
    have hrun := run_equal_nil_nil (w := w) t hu
    have hgd : (eqGuard .eql t x (.const cv) .nilIface .nilIface).run P w = .ok () w := by simp [eqGuard]
    rw [Sem.run_bind, hgd, Result.andThen_ok]
    simp [binOp, hrun]
  · rename_i xs ys hx hy
    split at h
    · rename_i us vs hu hv
      obtain ⟨h1, h2, h3⟩ := h
      have key : ∀ (ι : Nat → Option Nat) (M : Nat → Prop) (a : Act) (w : World), (∀ y, y ∈ o.op.operands → RepA ι M w (a.eval y) (seval env y)) → a.eval x = .agg (us.map (Value.int .i64)).toArray ∧ a.eval y = .agg (vs.map (Value.int .i64)).toArray := fun ι M a w hops => by
        have g1 := hops x (mem_ops ho (by simp [Op.operands]))
        have g2 := hops y (mem_ops ho (by simp [Op.operands]))
        rw [hx, mapM_int hu] at g1
        rw [hy, mapM_int hv] at g2
        exact ⟨g1.ints, g2.ints⟩
      have hrun : ∀ w, (eqGuard op t x y (.agg (us.map (Value.int .i64)).toArray) (.agg (vs.map (Value.int .i64)).toArray) >>= fun _ => Op.equal t (.agg (us.map (Value.int .i64)).toArray) (.agg (vs.map (Value.int .i64)).toArray)).run P w = .ok (decide (us = vs)) w := fun w => by
        cases op <;> simp only at h3 <;> try exact h3.elim
        · exact h1 us vs rfl h2.symm w
        · exact h1 us vs rfl h2.symm w
      cases op <;> simp only at h3 <;> try exact h3.elim
      · refine stepW_val (yields_val fun ι M a w _ hops => ⟨.bool (decide (us = vs)), ?_, .d (.v _)⟩) h3
        obtain ⟨e1, e2⟩ := key ι M a w hops
        have he : execOp a.eval o = (do let r ← (eqGuard .eql t x y (.agg (us.map (Value.int .i64)).toArray) (.agg (vs.map (Value.int .i64)).toArray) >>= fun _ => Op.equal t (.agg (us.map (Value.int .i64)).toArray) (.agg (vs.map (Value.int .i64)).toArray)); pure (.value (.bool r))) := by simp [execOp, ho, e1, e2, binOp]
        rw [he, Sem.run_bind, hrun w]
        rfl
      · refine stepW_val (yields_val fun ι M a w _ hops => ⟨.bool (!decide (us = vs)), ?_, .d (.v _)⟩) h3
        obtain ⟨e1, e2⟩ := key ι M a w hops
        have he : execOp a.eval o = (do let r ← (eqGuard .neq t x y (.agg (us.map (Value.int .i64)).toArray) (.agg (vs.map (Value.int .i64)).toArray) >>= fun _ => Op.equal t (.agg (us.map (Value.int .i64)).toArray) (.agg (vs.map (Value.int .i64)).toArray)); pure (.value (.bool !r))) := by simp [execOp, ho, e1, e2, binOp]
        rw [he, Sem.run_bind, hrun w]
        rfl
    · split at h
      · rename_i us vs hu hv
        obtain ⟨h1, h3⟩ := h
        have key : ∀ (ι : Nat → Option Nat) (M : Nat → Prop) (a : Act) (w : World), (∀ y, y ∈ o.op.operands → RepA ι M w (a.eval y) (seval env y)) → a.eval x = .agg (us.map Sc.v).toArray ∧ a.eval y = .agg (vs.map Sc.v).toArray := fun ι M a w hops => by
          have g1 := hops x (mem_ops ho (by simp [Op.operands]))
          have g2 := hops y (mem_ops ho (by simp [Op.operands]))
          rw [hx, mapM_sc hu] at g1
          rw [hy, mapM_sc hv] at g2
          exact ⟨g1.scs, g2.scs⟩
        have hrun : ∀ w, (eqGuard op t x y (.agg (us.map Sc.v).toArray) (.agg (vs.map Sc.v).toArray) >>= fun _ => Op.equal t (.agg (us.map Sc.v).toArray) (.agg (vs.map Sc.v).toArray)).run P w = .ok (decide (us = vs)) w := fun w => by
          cases op <;> simp only at h3 <;> try exact h3.elim
          · exact h1 w
          · exact h1 w
        cases op <;> simp only at h3 <;> try exact h3.elim
        · refine stepW_val (yields_val fun ι M a w _ hops => ⟨.bool (decide (us = vs)), ?_, .d (.v _)⟩) h3
          obtain ⟨e1, e2⟩ := key ι M a w hops
          have he : execOp a.eval o = (do let r ← (eqGuard .eql t x y (.agg (us.map Sc.v).toArray) (.agg (vs.map Sc.v).toArray) >>= fun _ => Op.equal t (.agg (us.map Sc.v).toArray) (.agg (vs.map Sc.v).toArray)); pure (.value (.bool r))) := by simp [execOp, ho, e1, e2, binOp]
          rw [he, Sem.run_bind, hrun w]
          rfl
        · refine stepW_val (yields_val fun ι M a w _ hops => ⟨.bool (!decide (us = vs)), ?_, .d (.v _)⟩) h3
          obtain ⟨e1, e2⟩ := key ι M a w hops
          have he : execOp a.eval o = (do let r ← (eqGuard .neq t x y (.agg (us.map Sc.v).toArray) (.agg (vs.map Sc.v).toArray) >>= fun _ => Op.equal t (.agg (us.map Sc.v).toArray) (.agg (vs.map Sc.v).toArray)); pure (.value (.bool !r))) := by simp [execOp, ho, e1, e2, binOp]
          rw [he, Sem.run_bind, hrun w]
          rfl
      · exact h.elim
  · exact h.elim

theorem unW_sound {op : UnOp} {t : TypeId} {x : Operand} (ho : o.op = .unOp op t x) (h : unW op (seval env x) K) : stepS P cx hyp env box nm o K := by
  unfold unW at h
  split at h
  · rename_i b hx
    refine stepW_val (yields_val fun ι M a w _ hops => ⟨.bool !b, ?_, .d (.v _)⟩) h
    have h1 := hops x (mem_ops ho (by simp [Op.operands]))
    rw [hx] at h1
    simp [execOp, ho, h1.ofV, Op.unary]
  · rename_i k n hx
    refine stepW_val (yields_val fun ι M a w _ hops => ⟨.int k (k.wrap (0 - n)), ?_, .d (.v _)⟩) h
    have h1 := hops x (mem_ops ho (by simp [Op.operands]))
    rw [hx] at h1
    simp [execOp, ho, h1.ofV, Op.unary, Op.intArith]
  · exact h.elim

theorem cvW_sound {s d : TypeId} {x : Operand} (ho : o.op = .convert s d x) (h : cvW P s d (seval env x) K) : stepS P cx hyp env box nm o K := by
  unfold cvW at h
  split at h
  · rename_i k k' n hd hx
    obtain ⟨hs, h⟩ := h
    obtain ⟨sd, hs⟩ := Option.isSome_iff_exists.1 hs
    refine stepW_val (yields_val fun ι M a w _ hops => ⟨.int k (k.wrap n), ?_, .d (.v _)⟩) h
    have h1 := hops x (mem_ops ho (by simp [Op.operands]))
    rw [hx] at h1
    simp [execOp, ho, h1.ofV, convert, run_underlying hd, run_underlying hs, Conv.intToInt]
  · exact h.elim

theorem boxW_sound {t : TypeId} {y : Operand} (ho : o.op = .box t y) (h : boxW env nm t y K) : stepS P cx hyp env box nm o K :=
  ⟨_, fun _ => y_box ho h.1, by simp, by simp, h.2⟩

theorem allocW_sound {t : TypeId} (ho : o.op = .alloc t) (h : allocW P nm t K) : stepS P cx hyp env box nm o K := by
  unfold allocW at h
  split at h
  · rename_i i hi
    exact ⟨_, fun _ => y_alloc ho (tv_zero hi) h.1, by simp, by simp, h.2⟩
  · exact h.elim

theorem run_places : ∀ (l : List Field) (w : World), knownAll P (l.map fun f => (f.offset, f.type)) = true → (l.mapM fun f => Prod.mk f.offset <$> sizeOf f.type : Sem (List (Nat × Nat))).run P w = .ok (placesOf P (l.map fun f => (f.offset, f.type))) w
  | [], w, _ => rfl
  | f :: l, w, h => by
    simp only [knownAll, List.map_cons, List.all_cons, Bool.and_eq_true] at h
    cases hj : tv P f.type with
    | none => rw [hj] at h; simp at h
    | some j =>
      have ih := run_places l w h.2
      simp only [List.mapM_cons, Sem.run_bind, Sem.run_map, tv_size hj, Result.andThen_ok, ih, Sem.run_pure]
      simp [placesOf, hj]

theorem buildW_sound {t : TypeId} {parts : Array (Nat × Operand)} (ho : o.op = .build t parts) (h : buildW P env t parts K) : stepS P cx hyp env box nm o K := by
  unfold buildW at h
  split at h
  · rename_i i hi
    obtain ⟨h1, h⟩ := h
    split at h
    · rename_i fs hk
      obtain ⟨fds, hu, rfl⟩ := tv_struct hi hk
      obtain ⟨hkn, h⟩ := h
      split at h
      · rename_i l hl
        refine stepW_val (y_build (places := (placesOf P (fds.toList.map fun f => (f.offset, f.type))).toArray) ho hu (tv_zero hi) (fun w => ?_) h1 (by simpa using hl)) h
        have := run_places fds.toList w hkn
        rw [Array.mapM_eq_mapM_toList, Sem.run_map, this]
        rfl
      · exact h.elim
    · rename_i n e hk
      split at h
      · rename_i j hj
        split at h
        · rename_i l hl
          exact stepW_val (y_build_arr ho (tv_array hi hk) (tv_zero hi) (tv_size hj) h1 hl) h
        · exact h.elim
      · exact h.elim
    · exact h.elim
  · exact h.elim

theorem bslW_sound {t : TypeId} {len : Nat} {parts : Array (Nat × Operand)} (ho : o.op = .buildSlice t len parts) (h : bslW P env nm t len parts K) : stepS P cx hyp env box nm o K := by
  unfold bslW at h
  split at h
  · rename_i e hk
    simp only [Option.map_eq_some_iff] at hk
    obtain ⟨i, hi, hk⟩ := hk
    split at h
    · rename_i j hj
      obtain ⟨⟨h1, h2, h3, h4⟩, h⟩ := h
      split at h
      · rename_i l hl
        exact ⟨_, fun _ => y_buildSlice ho (tv_slice hi hk) (tv_zero hj) (tv_size hj) h1 h2 h3 h4 hl, by simp, by simp, h⟩
      · exact h.elim
    · exact h.elim
  · exact h.elim

theorem y_slice_osl {ρ : Operand → AV} {t e : TypeId} {y : Operand} {lo hi : Option Operand} {bx k off n a b : Nat} (ho : o.op = .slice t y lo hi none) (ht : P.underlying t = some (.slice e)) (hk : ∀ w, (sizeOf e).run P w = .ok k w) (hy : ρ y = .osl bx k off n)
    (hlo : (lo = none ∧ a = 0) ∨ ∃ z, lo = some z ∧ ρ z = .v (.int .i64 (a : Int))) (hhi : (hi = none ∧ b = n) ∨ ∃ z, hi = some z ∧ ρ z = .v (.int .i64 (b : Int)))
    (h1 : a ≤ b) (h2 : b ≤ n) : Yields P cx o ρ ⟨[], .osl bx k (off + a * k) (b - a), []⟩ := by
  refine yields_val fun ι M ac w _ hops => ?_
  have g1 := hops y (mem_ops ho (by simp [Op.operands]))
  rw [hy] at g1
  have ev : ∀ z, z ∈ o.op.operands → ∀ n : Nat, ρ z = .v (.int .i64 (n : Int)) → ac.eval z = .int .i64 (n : Int) := fun z hz n hn => by
    have := hops z hz
    rw [hn] at this
    exact this.ofV
  have hlo' : (lo.map ac.eval = none ∧ a = 0) ∨ lo.map ac.eval = some (.int .i64 (a : Int)) := by
    rcases hlo with ⟨rfl, rfl⟩ | ⟨z, rfl, hz⟩
    · exact .inl ⟨rfl, rfl⟩
    · exact .inr (by simp [ev z (mem_ops ho (by simp [Op.operands])) a hz])
  have hhi' : (hi.map ac.eval = none ∧ b = n ∧ (none : Option Operand).map ac.eval = none) ∨ hi.map ac.eval = some (.int .i64 (b : Int)) := by
    rcases hhi with ⟨rfl, rfl⟩ | ⟨z, rfl, hz⟩
    · exact .inl ⟨rfl, rfl, rfl⟩
    · exact .inr (by simp [ev z (mem_ops ho (by simp [Op.operands])) b hz])
  rcases g1.osl' with ⟨g, cap, c, ty, hv, hg, hnc, hcm, hh, hsz⟩ | ⟨rfl, A, hv⟩
  · have hrun := run_sliceBounds_n (P := P) (w := w) (cap := cap) hlo' hhi' (mx := (none : Option Operand).map ac.eval) (.inl ⟨rfl, rfl⟩) h1 (by omega) (Nat.le_refl _)
    simp only [Option.map_none] at hrun
    refine ⟨_, by simp [execOp, ho, Instr.sliceAt, Instr.slice, run_underlying ht, hv, hrun, hk]; rfl, ?_⟩
    by_cases hca : cap = a
    · subst hca
      have h3 : b - cap = 0 := by omega
      simp only [h3, Nat.sub_self, if_true]
      exact .osl0 _ _ _ _
    · simp only [hca, if_false, Option.map_some]
      have had : (Addr.mk g off none).add (a * k) = Addr.mk g (off + a * k) none := by
        simp only [Addr.add]
        split
        · rename_i h0; rw [h0]; rfl
        · rfl
      rw [had]
      refine .osl (c := c) (t := ty) hg (by omega) (by omega) hh ?_
      have : (cap - a) * k + a * k = cap * k := by rw [← Nat.add_mul, Nat.sub_add_cancel (by omega)]
      omega
  · obtain rfl : b = 0 := by omega
    obtain rfl : a = 0 := by omega
    have hrun := run_sliceBounds_n (P := P) (w := w) (cap := 0) hlo' hhi' (mx := (none : Option Operand).map ac.eval) (.inl ⟨rfl, rfl⟩) h1 (by omega) (Nat.le_refl _)
    simp only [Option.map_none] at hrun
    refine ⟨.slice A 0 0, by simp [execOp, ho, Instr.sliceAt, Instr.slice, run_underlying ht, hv, hrun, hk], .osl0 _ _ _ _⟩

theorem y_makeSlice {ρ : Operand → AV} {t e : TypeId} {k bnm n m : Nat} {z : Value} {i : TypeInfo} {x y : Operand} (ho : o.op = .makeSlice t x y) (hu : P.underlying t = some (.slice e)) (hz : ∀ w, (zeroValue e).run P w = .ok z w) (hk : ∀ w, (sizeOf e).run P w = .ok k w) (hi : P.info? e = some i)
    (hx : ρ x = .v (.int .i64 (n : Int))) (hy : ρ y = .v (.int .i64 (m : Int))) (hzk : z.cells.size = k) (hk0 : 0 < k) (h1 : z.cells.all (·.oneCell') = true) (hnm : n ≤ m) (hby : m * i.bytes ≤ 140737488355328) (hml : m ≤ maxLen) :
    Yields P cx o ρ ⟨[], .osl bnm k 0 n, [(bnm, some ⟨e, zerosOf z k n⟩)]⟩ := by
  refine yields_new fun ι M a w hops => ?_
  have gx := hops x (mem_ops ho (by simp [Op.operands]))
  rw [hx] at gx
  have gy := hops y (mem_ops ho (by simp [Op.operands]))
  rw [hy] at gy
  have hml' : m ≤ 9223372036854775807 := hml
  have wn : IntKind.i64.wrap (n : Int) = n := by unfold IntKind.wrap; simp [IntKind.bits, IntKind.signed]; omega
  have w0 : IntKind.i64.wrap 0 = 0 := rfl
  have wm : IntKind.i64.wrap (m : Int) = m := by unfold IntKind.wrap; simp [IntKind.bits, IntKind.signed]; omega
  generalize hc0 : (if m * k = 0 then #[] else z.cells) = zc
  have hcells : (Array.range (m * k)).map (zc[· % zc.size]!) = (Array.range (m * k)).map (z.cells[· % z.cells.size]!) := by
    by_cases h0 : m * k = 0
    · simp [h0]
    · rw [if_neg h0] at hc0; rw [hc0]
  refine ⟨.slice (some ⟨w.heap.size, 0, none⟩) n m, (Array.range (m * k)).map (zc[· % zc.size]!), ?_, ?_, ?_, fun ι' M' h => .osl h hnm hml (heap_alloc_new w _) (by simp)⟩
  · have hb : ¬ (2 : Int) ^ 48 < (i.bytes : Int) * m := by
      have : ((m * i.bytes : Nat) : Int) ≤ 140737488355328 := by omega
      rw [Int.natCast_mul] at this
      rw [Int.mul_comm]
      omega
    have hrm : ¬ m * i.bytes > roomBytes := by show ¬ m * i.bytes > 140737488355328; omega
    have hti : (typeInfo e).run P w = .ok i w := by simp [typeInfo, hi]
    by_cases h0 : m * k = 0
    · simp only [h0, if_true] at hc0
      subst hc0
      have hm0 : m = 0 := by rcases Nat.mul_eq_zero.1 h0 with h | h <;> omega
      subst hm0
      obtain rfl : n = 0 := by omega
      simp [execOp, ho, Instr.makeSlice, run_underlying hu, gx.ofV, gy.ofV, hti, w0, asInt, asIntOf, askRoom, roomBytes, hk, newRow, newObj, Sem.run]
    · simp only [h0, if_false] at hc0
      subst hc0
      simp [execOp, ho, Instr.makeSlice, run_underlying hu, gx.ofV, gy.ofV, hti, wn, wm, asInt, asIntOf, askRoom, hrm, hk, hz, h0, hb, newRow, newObj, Sem.run, Int.not_lt.2 (Int.natCast_nonneg m), Int.not_lt.2 (Int.natCast_nonneg n), show ¬ (m : Int) < n by omega]
      intro hc
      omega
  · show (zerosOf z k n).length ≤ _
    have : n * k ≤ m * k := Nat.mul_le_mul_right _ hnm
    simp [zerosOf]
    omega
  · intro j v w' hv hw
    have hw : (zerosOf z k n)[j]? = some w' := hw
    rw [hcells] at hv
    obtain ⟨e1, e2, e3⟩ := zeros_at z.cells (by omega) _ _ _ hv
    have hj : j < n * k := by
      have := (List.getElem?_eq_some_iff.1 hw).1
      simpa [zerosOf] using this
    rw [zerosOf, List.getElem?_map, List.getElem?_range hj] at hw
    simp only [Option.map_some, Option.some.injEq] at hw
    subst hw
    rw [hzk] at e2
    exact ⟨(Array.all_eq_true_iff_forall_mem.1 h1) v (by simpa using e3), by rw [e2]; exact .d (.v _)⟩

theorem mkW_sound {t : TypeId} {x y : Operand} (ho : o.op = .makeSlice t x y) (h : mkW P nm t (seval env x) (seval env y) K) : stepS P cx hyp env box nm o K := by
  unfold mkW at h
  split at h
  · rename_i e n m hk hx hy
    simp only [Option.map_eq_some_iff] at hk
    obtain ⟨i, hi', hk⟩ := hk
    split at h
    · rename_i j hj
      obtain ⟨⟨h1, h2, h3, h4, h5, h6, h7⟩, h8⟩ := h
      obtain ⟨ti, d, q1, -, -, -, q5, -⟩ := tv_spec hj
      have en : n = (n.toNat : Int) := by omega
      have em : m = (m.toNat : Int) := by omega
      rw [en] at hx
      rw [em] at hy
      exact ⟨_, fun _ => y_makeSlice (bnm := nm) ho (tv_slice hi' hk) (tv_zero hj) (tv_size hj) q1 hx hy h1 h2 h3 (by omega) (by rw [q5]; exact h6) h7, by simp, by simp, h8⟩
    · exact h.elim
  · exact h.elim

theorem y_arrSl {ρ : Operand → AV} {t e : TypeId} {y : Operand} {l : List AV} {n : Nat} (ho : o.op = .slice t y none none none) (ht : P.underlying t = some (.array n e)) (hk : ∀ w, (sizeOf e).run P w = .ok 1 w) (hy : ρ y = .pp l) (hn : n ≤ l.length) (hm : n ≤ maxLen) :
    Yields P cx o ρ ⟨[], .sl false 1 ((l.take n).map fun x => [x]), []⟩ := by
  refine yields_val fun ι M ac w _ hops => ?_
  have g1 := hops y (mem_ops ho (by simp [Op.operands]))
  rw [hy] at g1
  generalize hev : ac.eval y = u at *
  cases g1 with
  | d g1 =>
    cases g1 with
    | @pp g off _ x hM hg hl hx =>
      have hb : (Instr.sliceBounds false n n none none none).run P w = .ok (0, n, n) w := by simp [Instr.sliceBounds]
      refine ⟨.slice (some ⟨g, off, none⟩) n n, ?_, .d (.sl g off (fun i j => x (i + j)) (by simp; omega) (Nat.le_refl _) hm (fun h => by cases h) (fun row hr => ?_) (fun _ => ⟨rfl, hM, hg⟩) (fun i j hi hj => ?_) (fun i row j z hi hj => ?_))⟩
      · have hu : ac.eval y = .pointer (some ⟨g, off, none⟩) := hev
        have h0 : (Addr.mk g off none).add (0 * 1) = ⟨g, off, none⟩ := rfl
        simp [execOp, ho, Instr.sliceAt, run_underlying ht, hu, Instr.sureAddr, hb, hk, h0]
      · obtain ⟨z, -, rfl⟩ := List.mem_map.1 hr; rfl
      · obtain rfl : j = 0 := by omega
        have := hl i (by simp at hi; omega)
        simpa using this
      · rw [List.getElem?_map, Option.map_eq_some_iff] at hi
        obtain ⟨q, hq, rfl⟩ := hi
        rcases j with _ | j
        · simp at hj
          subst hj
          refine hx i q ?_
          have hin : i < n := by have := (List.getElem?_eq_some_iff.1 hq).1; simp at this; omega
          rw [List.getElem?_take, if_pos hin] at hq
          exact hq
        · simp at hj
theorem slcW_sound {t : TypeId} {y : Operand} {lo hi mx : Option Operand} (ho : o.op = .slice t y lo hi mx) (h : slcW P env t y lo hi mx K) : stepS P cx hyp env box nm o K := by
  unfold slcW at h
  split at h
  · rename_i e full k l hk hy
    simp only [Option.map_eq_some_iff] at hk
    obtain ⟨i, hi', hk⟩ := hk
    obtain ⟨hj, a, b, f', h1, h2, h3, h4, h5, h6⟩ := h
    split at hj
    · rename_i j hj'
      subst hj
      exact stepW_val (y_slice ho (tv_slice hi' hk) (tv_size hj') hy h1 h2 h3 h4 h5) h6
    · exact hj.elim
  · rename_i e bx k off n hk hy
    simp only [Option.map_eq_some_iff] at hk
    obtain ⟨i, hi', hk⟩ := hk
    obtain ⟨hj, a, b, h1, h2, h3, h4, h5, h6⟩ := h
    subst h3
    split at hj
    · rename_i j hj'
      subst hj
      exact stepW_val (y_slice_osl ho (tv_slice hi' hk) (tv_size hj') hy h1 h2 h4 h5) h6
    · exact hj.elim
  · rename_i n e l hk hy
    simp only [Option.map_eq_some_iff] at hk
    obtain ⟨i, hi', hk⟩ := hk
    obtain ⟨rfl, rfl, rfl, hj, h1, h2, h3⟩ := h
    split at hj
    · rename_i j hj'
      exact stepW_val (y_arrSl ho (tv_array hi' hk) (fun w => by have := tv_size hj' (P := P) w; rw [hj] at this; exact this) hy h1 h2) h3
    · exact hj.elim
  · exact h.elim

theorem lenW_sound {t : TypeId} {y : Operand} (ho : o.op = .call { callee := .builtin .len, args := #[y], argTypes := #[t] }) (h : lenW P t (seval env y) K) : stepS P cx hyp env box nm o K := by
  unfold lenW at h
  split at h
  · rename_i e hk
    simp only [Option.map_eq_some_iff] at hk
    obtain ⟨i, hi, hk⟩ := hk
    split at h
    · rename_i full k l hy
      exact stepW_val (y_len ho (tv_slice hi hk) hy) h
    · rename_i b k off n hy
      exact stepW_val (y_len_osl ho (tv_slice hi hk) hy) h
    · rename_i A n c hy
      exact stepW_val (y_len_nil ho (tv_slice hi hk) hy) h
    · exact h.elim
  · exact h.elim

theorem srcOf_spec {k : Nat} {x : AV} {fpx : List (Nat × Bx)} {m : Nat} {news : List AV} (h : srcOf box k x = some (fpx, m, news)) : IsSrc x fpx k m news ∧ ∀ b y, (b, y) ∈ fpx → bget box b = some y := by
  unfold srcOf at h
  split at h
  · rename_i f k' l
    split at h
    · rename_i hk; subst hk
      simp at h; obtain ⟨rfl, rfl, rfl⟩ := h
      exact ⟨.sl rfl, by simp⟩
    · cases h
  · rename_i b k' off m'
    split at h
    · rename_i hk; subst hk
      split at h
      · rename_i bx hb
        split at h
        · rename_i hle
          simp at h; obtain ⟨rfl, rfl, rfl⟩ := h
          refine ⟨.osl hle, fun b' y' h => ?_⟩
          simp at h
          rw [h.1, h.2]
          exact hb
        · cases h
      · cases h
    · cases h
  · simp at h; obtain ⟨rfl, rfl, rfl⟩ := h
    exact ⟨.nil, by simp⟩
  · cases h

theorem appW_sound {t : TypeId} {s x : Operand} (ho : o.op = .call { callee := .builtin .append, args := #[s, x], argTypes := #[t, t] }) (h : appW P env box nm t s x K) : stepS P cx hyp env box nm o K := by
  unfold appW at h
  split at h
  · rename_i e hk
    simp only [Option.map_eq_some_iff] at hk
    obtain ⟨i, hi, hk⟩ := hk
    split at h
    · rename_i j hj
      obtain ⟨⟨hz, h0⟩, h⟩ := h
      split at h
      · rename_i fpx m news hsrc
        obtain ⟨hs1, hs2⟩ := srcOf_spec hsrc
        obtain ⟨hnm, h⟩ := h
        have hnm' : ∀ y, (nm, y) ∉ fpx := fun y hy => by
          have := List.all_eq_true.1 hnm _ hy
          simp at this
        split at h
        · rename_i b0 k n hb0
          split at h
          · rename_i bx hbx
            obtain ⟨⟨rfl, hcs, ht, hne⟩, ⟨h63, hby⟩, hK⟩ := h
            refine ⟨_, fun _ => y_append ho (tv_slice hi hk) (tv_info hj) hz h0 hb0 hcs ht hs1 hne hnm' h63 hby, ?_, ?_, hK⟩
            · intro b y hy
              rcases List.mem_cons.1 hy with h | h
              · injection h with h1 h2; subst h1 h2; exact hbx
              · exact hs2 b y h
            · intro b y hy
              simp at hy
              exact .inr (by have := hy.1; omega)
          · exact h.elim
        · rename_i full k l hs
          obtain ⟨⟨rfl, rfl⟩, hm, ⟨h63, hby⟩, hK⟩ := h
          refine ⟨_, fun _ => y_append_full ho (tv_slice hi hk) (tv_info hj) hz h0 (.inl hs) rfl hs1 hnm' hm h63 hby, hs2, ?_, hK⟩
          intro b y hy
          simp at hy
          exact .inr (by have := hy.1; omega)
        · rename_i hs
          obtain ⟨⟨h63, hby⟩, hK⟩ := h
          have hy := y_append_full (cx := cx) (l := []) (b := nm) ho (tv_slice hi hk) (tv_info hj) hz h0 (.inr ⟨hs, rfl⟩) rfl hs1 hnm' (.inr rfl) (by simpa using h63) (by simpa using hby)
          simp only [List.length_nil, Nat.zero_add, List.flatten_nil, List.nil_append] at hy
          refine ⟨_, fun _ => hy, hs2, ?_, hK⟩
          intro b y hy
          simp at hy
          exact .inr (by have := hy.1; omega)
        · exact h.elim
      · exact h.elim
    · exact h.elim
  · exact h.elim

theorem RepA.mp' {ι : Nat → Option Nat} {M : Nat → Prop} {w : World} {v : Value} {es : Array MapEntry} {c : Nat} (h : RepA ι M w v (.mp es c)) : ∃ r, v = .map (some r) ∧ w.heap[r]? = some (.map es c) := by
  cases h with
  | d h => cases h with
    | mp hM hr => exact ⟨_, rfl, hr⟩

theorem rep_ofV {ι : Nat → Option Nat} {M : Nat → Prop} {w : World} (v : Value) : RepA ι M w v (ofV v) := by
  unfold ofV
  split
  · exact .d (.fn rfl rfl (by simp) (by simp))
  · exact .d (.v _)

theorem lkW_sound {t : TypeId} {m k : Operand} {comma : Bool} (ho : o.op = .lookup t m k comma) (h : lkW P t (seval env m) (seval env k) comma K) : stepS P cx hyp env box nm o K := by
  unfold lkW at h
  split at h
  · rename_i es c n kt et hm hk hu
    obtain ⟨⟨rfl, hkt⟩, h⟩ := h
    have key : ∀ (ι : Nat → Option Nat) (M : Nat → Prop) (a : Act) (w : World), (∀ y, y ∈ o.op.operands → RepA ι M w (a.eval y) (seval env y)) → ∃ r, a.eval m = .map (some r) ∧ w.heap[r]? = some (.map es c) ∧ a.eval k = .int .i64 n := fun ι M a w hops => by
      have g1 := hops m (mem_ops ho (by simp [Op.operands]))
      have g2 := hops k (mem_ops ho (by simp [Op.operands]))
      rw [hm] at g1
      rw [hk] at g2
      obtain ⟨r, e1, e2⟩ := g1.mp'
      exact ⟨r, e1, e2, g2.ofV⟩
    split at h
    · rename_i i v hf
      refine stepW_val (yields_val fun ι M a w _ hops => ?_) h
      obtain ⟨r, e1, e2, e3⟩ := key ι M a w hops
      refine ⟨.tuple #[v, .bool true], ?_, .tup rfl ?_⟩
      · have hrun : (Instr.lookup t (.map (some r)) (.int .i64 n) true).run P w = .ok (.tuple #[v, .bool true]) w := by
          simp only [Instr.lookup, Sem.run_bind, Sem.run_pure, run_underlying hu, Result.andThen_ok, MapKept.run_getObj_map e2, MapKept.run_checkKey hkt (show MapKept.IsKey (.int .i64) (.int .i64 n) from rfl), MapKept.run_findKey hkt hf, if_true]
        simp [execOp, ho, e1, e3, hrun]
      · intro i x y hx hy
        rcases i with _ | _ | i
        · simp at hx hy; subst hx hy; exact rep_ofV _
        · simp at hx hy; subst hx hy; exact .d (.v _)
        · simp at hy
    · rename_i hf
      split at h
      · rename_i ti hti
        have hz := tv_zero hti
        refine stepW_val (yields_val fun ι M a w _ hops => ?_) h
        obtain ⟨r, e1, e2, e3⟩ := key ι M a w hops
        refine ⟨.tuple #[ti.zero, .bool false], ?_, .tup rfl ?_⟩
        · have hrun : (Instr.lookup t (.map (some r)) (.int .i64 n) true).run P w = .ok (.tuple #[ti.zero, .bool false]) w := by
            simp only [Instr.lookup, Sem.run_bind, Sem.run_pure, run_underlying hu, Result.andThen_ok, MapKept.run_getObj_map e2, MapKept.run_checkKey hkt (show MapKept.IsKey (.int .i64) (.int .i64 n) from rfl), MapKept.run_findKey hkt hf, hz, if_true]
          simp [execOp, ho, e1, e3, hrun]
        · intro i x y hx hy
          rcases i with _ | _ | i
          · simp at hx hy; subst hx hy; exact .d (.v _)
          · simp at hx hy; subst hx hy; exact .d (.v _)
          · simp at hy
      · exact h.elim
    · exact h.elim
  · exact h.elim

theorem taW_sound {t s : TypeId} {y : Operand} {comma : Bool} (ho : o.op = .typeAssert y s t comma) (h : taW P t (seval env y) comma K) : stepS P cx hyp env box nm o K := by
  unfold taW at h
  split at h
  · rename_i i hi
    obtain ⟨rfl, h⟩ := h
    split at h
    · rename_i fs hk
      obtain ⟨fds, hu, -⟩ := tv_struct hi hk
      have hz := tv_zero hi
      split at h
      · rename_i u x hx
        split at h
        · rename_i e
          have e := Nat.eq_of_beq_eq_true e
          subst e
          refine stepW_val (yields_val fun ι M a w _ hops => ?_) h
          have g1 := hops y (mem_ops ho (by simp [Op.operands]))
          rw [hx] at g1
          generalize e1 : a.eval y = vy at g1
          cases g1 with
          | d g => cases g
          | @iface _ v _ g =>
            refine ⟨.tuple #[v, .bool true], by simp [execOp, ho, e1, Instr.typeAssert, run_underlying hu], .tup rfl ?_⟩
            intro i x y hx hy
            rcases i with _ | _ | i
            · simp at hx hy; subst hx hy; exact g
            · simp at hx hy; subst hx hy; exact .d (.v _)
            · simp at hy
        · rename_i e
          have e := Nat.ne_of_beq_eq_false e
          refine stepW_val (yields_val fun ι M a w _ hops => ?_) h
          have g1 := hops y (mem_ops ho (by simp [Op.operands]))
          rw [hx] at g1
          obtain ⟨v, e1⟩ := g1.iface'
          refine ⟨.tuple #[i.zero, .bool false], by simp [execOp, ho, e1, Instr.typeAssert, run_underlying hu, e, hz], .tup rfl ?_⟩
          intro i x y hx hy
          rcases i with _ | _ | i
          · simp at hx hy; subst hx hy; exact .d (.v _)
          · simp at hx hy; subst hx hy; exact .d (.v _)
          · simp at hy
      · rename_i hx
        refine stepW_val (yields_val fun ι M a w _ hops => ?_) h
        have g1 := hops y (mem_ops ho (by simp [Op.operands]))
        rw [hx] at g1
        have e1 := g1.ofV
        refine ⟨.tuple #[i.zero, .bool false], by simp [execOp, ho, e1, Instr.typeAssert, run_underlying hu, hz], .tup rfl ?_⟩
        intro i x y hx hy
        rcases i with _ | _ | i
        · simp at hx hy; subst hx hy; exact .d (.v _)
        · simp at hx hy; subst hx hy; exact .d (.v _)
        · simp at hy
      · exact h.elim
    · exact h.elim
  · exact h.elim

theorem ixW_sound {t : TypeId} {y z : Operand} (ho : o.op = .index t y z) (h : ixW P hyp t (seval env y) (seval env z) K) : stepS P cx hyp env box nm o K := by
  unfold ixW at h
  split at h
  · rename_i n e l k i e1 e2 e3
    split at h
    · rename_i j hj
      split at h
      · rename_i x hx
        obtain ⟨h1, h2⟩ := h
        rw [Option.map_eq_some_iff] at e1
        obtain ⟨ti, hti, hk⟩ := e1
        exact stepH_val (fun hh => y_index ho (tv_array hti hk) (tv_agg hj) (tv_size hj) e2 e3 (h1 hh).1 (h1 hh).2 hx) h2
      · exact h.elim
    · exact h.elim
  · exact h.elim

theorem mmW_sound {x y : Operand} {ats : Array TypeId} {mx : Bool} (ho : o.op = .call { callee := .builtin (cond mx .max .min), args := #[x, y], argTypes := ats }) (h : mmW mx (seval env x) (seval env y) K) : stepS P cx hyp env box nm o K := by
  unfold mmW at h
  split at h
  · rename_i k a k' b hx hy
    obtain ⟨rfl, h⟩ := h
    refine stepW_val (yields_val fun ι M ac w _ hops => ?_) h
    have g1 := hops x (mem_ops ho (by simp [Op.operands, Call.operands]))
    have g2 := hops y (mem_ops ho (by simp [Op.operands, Call.operands]))
    rw [hx] at g1
    rw [hy] at g2
    refine ⟨_, ?_, .d (.v _)⟩
    cases mx
    · simp [execOp, ho, resolve, invoke, builtin, g1.ofV, g2.ofV, Builtin.min_, Builtin.min2]
      split <;> omega
    · simp [execOp, ho, resolve, invoke, builtin, g1.ofV, g2.ofV, Builtin.max_, Builtin.max2]
      split <;> omega
  · exact h.elim

theorem extW_sound {y : Operand} {i : Nat} (ho : o.op = .extract y i) (h : extW (seval env y) i K) : stepS P cx hyp env box nm o K := by
  unfold extW at h
  split at h
  · rename_i l hy
    split at h
    · rename_i x hx
      exact stepW_val (y_extract ho hy hx) h
    · exact h.elim
  · exact h.elim

theorem fieldW_sound {t : TypeId} {y : Operand} {f : Nat} (ho : o.op = .field t y f) (h : fieldW P t (seval env y) f K) : stepS P cx hyp env box nm o K := by
  unfold fieldW at h
  split at h
  · rename_i fs l hk hy
    simp only [Option.map_eq_some_iff] at hk
    obtain ⟨i, hi, hk⟩ := hk
    obtain ⟨fds, hu, rfl⟩ := tv_struct hi hk
    split at h
    · rename_i fo ft hf
      simp only [List.getElem?_map, Option.map_eq_some_iff] at hf
      obtain ⟨fd, hfd, he⟩ := hf
      injection he with e1 e2
      subst e1 e2
      have hfd' : fds[f]? = some fd := by simpa using hfd
      split at h
      · rename_i j hj
        split at h
        · rename_i x hx
          exact stepW_val (y_field ho hu hfd' (tv_agg hj) (tv_size hj) hy hx) h
        · exact h.elim
      · exact h.elim
    · exact h.elim
  · exact h.elim

theorem opsOK_mem : ∀ {l : List Operand}, opsOK hyp env l → hyp → ∀ y, y ∈ l → (oeval env y).cnd = true
  | [], _, _, y, h => by simp at h
  | x :: l, h, hh, y, hy => by
    rcases List.mem_cons.1 hy with rfl | hy
    · exact cndOK_cnd h.1 hh
    · exact opsOK_mem h.2 hh y hy

theorem Yields.strip {S : OpS} (h : Yields P cx o (seval env) S) (hc : ∀ y, y ∈ o.op.operands → (oeval env y).cnd = true) : Yields P cx o (oeval env) S :=
  fun ι box used a w h1 h2 h3 h4 h5 => h ι box used a w h1 h2 h3 h4 fun y hy => (h5 y hy).strip (hc y hy)

theorem ncW_sound {y : Operand} (ho : o.op = .nilCheck y) (h : ncW (seval env y) K) : stepS P cx hyp env box nm o K := by
  unfold ncW at h
  split at h
  · rename_i b off hy
    refine stepW_val (yields_val fun ι M a w _ hops => ?_) h
    have h1 := hops y (mem_ops ho (by simp [Op.operands]))
    rw [hy] at h1
    obtain ⟨g, hg, hv⟩ := h1.ptr'
    refine ⟨.pointer (some ⟨g, off, none⟩), ?_, .ptr hg⟩
    simp [execOp, ho, hv]
  · exact h.elim

theorem restW_sound (h : restW P cx hyp env box nm o K) : stepS P cx hyp env box nm o K := by
  unfold restW at h
  split at h
  · rename_i y ho; exact stepW_val (y_move (.inl ho)) h
  · rename_i y ho; exact stepW_val (y_move (.inr ho)) h
  · rename_i ho; exact ldW_sound ho h
  · rename_i ho; exact stW_sound ho h
  · rename_i ho; exact fldW_sound ho h
  · rename_i ho; exact idxW_sound ho h
  · rename_i ho; exact binW_sound ho h
  · rename_i ho; exact unW_sound ho h
  · rename_i ho; exact cvW_sound ho h
  · rename_i ho; exact boxW_sound ho h
  · rename_i ho; exact allocW_sound ho h
  · rename_i ho; exact buildW_sound ho h
  · rename_i ho; exact bslW_sound ho h
  · rename_i ho; exact slcW_sound ho h
  · rename_i ho; exact mkW_sound ho h
  · rename_i ho; exact extW_sound ho h
  · rename_i ho; exact stepW_val (y_makeInterface ho h.1) h.2
  · rename_i ho; exact taW_sound ho h
  · rename_i ho; exact ixW_sound ho h
  · rename_i ho; exact lkW_sound ho h
  · rename_i ho; exact fieldW_sound ho h
  · rename_i ho; exact stepW_val (y_makeFunc ho) h
  · rename_i c ho
    obtain ⟨callee, args, ats⟩ := c
    unfold callOpW at h
    simp only at h
    split at h
    · exact h (enters_static ho)
    · rename_i y h1 h2
      split at h
      · rename_i f first caps hf; exact h (enters_value ho hf)
      · rename_i f hf; exact h (enters_v ho hf)
      · exact h
    · rename_i h1 h2
      have e1 : args = #[_] := congrArg List.toArray h1
      have e2 : ats = #[_] := congrArg List.toArray h2
      subst e1 e2
      exact lenW_sound ho h
    · rename_i h1
      have e1 : args = #[_, _] := congrArg List.toArray h1
      subst e1
      exact mmW_sound (mx := true) ho h
    · rename_i h1
      have e1 : args = #[_, _] := congrArg List.toArray h1
      subst e1
      exact mmW_sound (mx := false) ho h
    · rename_i h1 h2
      have e1 : args = #[_, _] := congrArg List.toArray h1
      have e2 : ats = #[_, _] := congrArg List.toArray h2
      subst e1 e2
      obtain ⟨rfl, h⟩ := h
      exact appW_sound ho h
    · exact h
  · rename_i y ho; exact ncW_sound ho h
  · exact h

theorem opW_sound (h : opW P cx hyp env box nm o K) : stepW P cx hyp env box nm o K := by
  unfold opW at h
  split at h
  · rename_i c p q ho
    unfold pickW at h
    split at h
    · rename_i t ht
      obtain ⟨⟨h1, h2, h3⟩, h4⟩ := h
      exact ⟨_, fun hh => y_pick2 ho ht (cndOK_cnd h1 hh) (cndOK2_cnd h2 hh) (cndOK2_cnd h3 hh), by simp, by simp, h4⟩
    · exact h.elim
  · obtain ⟨S, h1, h2, h3, h4⟩ := restW_sound h.2
    exact ⟨S, fun hh => (h1 hh).strip fun y hy => opsOK_mem h.1 hh y (by simpa using hy), h2, h3, h4⟩
end

end Go.Proofs.YtkonljmmdifnaaaGreat.V
