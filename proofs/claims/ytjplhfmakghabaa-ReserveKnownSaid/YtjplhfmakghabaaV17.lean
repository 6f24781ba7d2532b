/- The rules, for simp. -/
import Derived.Test.YtjplhfmakghabaaV16
set_option linter.unusedSimpArgs false
set_option linter.unusedVariables false
namespace Go.Proofs.Ytjplhfmakghabaa.V
open Go.RowKit
attribute [go_sem] reduceCtorEq Nat.reduceAdd Nat.reduceMul Nat.reduceEqDiff Nat.reduceLT Nat.reduceLeDiff Nat.reduceBEq Nat.reduceSub

theorem eget_cons (s t : Nat) (x : AV) (r : Env) : eget ((s, x) :: r) t = if t = s then x else eget r t := by simp only [eget]
theorem eget_nil (t : Nat) : eget [] t = .any := by simp only [eget]
theorem bget_cons (c b : Nat) (r : Option Bx) (l : Boxes) : bget ((c, r) :: l) b = if b = c then r else bget l b := by simp only [bget, bput]
theorem bget_nil (b : Nat) : bget [] b = none := by simp only [bget, bput]
theorem oeval_t (env : Env) (t : Tmp) : oeval env (.tmp t) = eget env t := by simp only [oeval]
theorem oeval_c (env : Env) (v : Value) : oeval env (.const v) = .v v := by simp only [oeval]
theorem oeval_g (env : Env) (g : Nat) : oeval env (.global g) = .v (.pointer (some ⟨g, 0, none⟩)) := by simp only [oeval]
theorem oeval_f (env : Env) (f : FuncId) : oeval env (.func f) = .v (.func (.func f) #[] #[]) := by simp only [oeval]
theorem seval_t (env : Env) (t : Tmp) : seval env (.tmp t) = (eget env t).strip := by simp only [seval, oeval]
theorem seval_c (env : Env) (v : Value) : seval env (.const v) = .v v := by simp only [seval, oeval, AV.strip]
theorem seval_g (env : Env) (g : Nat) : seval env (.global g) = .v (.pointer (some ⟨g, 0, none⟩)) := by simp only [seval, oeval, AV.strip]
theorem seval_f (env : Env) (f : FuncId) : seval env (.func f) = .v (.func (.func f) #[] #[]) := by simp only [seval, oeval, AV.strip]

theorem ldR_congr {ti ti' : Option TI} {x x' : AV} {box : Boxes} {c c' : Prop} (h1 : ti = ti') (h2 : x = x') (h3 : c = c') : ldR ti x box c = ldR ti' x' box c' := by subst h1 h2 h3; rfl
theorem stR_congr {ti ti' : Option TI} {x x' u u' : AV} {box : Boxes} {c c' : Prop} (h1 : ti = ti') (h2 : x = x') (h4 : u = u') (h3 : c = c') : stR ti x u box c = stR ti' x' u' box c' := by subst h1 h2 h3 h4; rfl
theorem appR_congr {P : Program} {k k' : Option TK} {nm nm' : Nat} {s s' x x' : AV} {box : Boxes} {c c' : Prop} (h1 : k = k') (h5 : nm = nm') (h2 : s = s') (h4 : x = x') (h3 : c = c') : appR P k nm box s x c = appR P k' nm' box s' x' c' := by subst h1 h2 h3 h4 h5; rfl
theorem srcOf_congr {box : Boxes} {k k' : Nat} {x x' : AV} (h1 : k = k') (h2 : x = x') : srcOf box k x = srcOf box k' x' := by subst h1 h2; rfl
theorem fz_congr {box : Boxes} {d d' : Nat} {x x' y y' : AV} (h0 : d = d') (h1 : x = x') (h2 : y = y') : fz box d x y = fz box d' x' y' := by subst h0 h1 h2; rfl
theorem fzA_congr {box : Boxes} {x x' y y' : AV} (h1 : x = x') (h2 : y = y') : fzA box x y = fzA box x' y' := by subst h1 h2; rfl
def zerosR (cs : List AV) : Nat → List AV
  | 0 => []
  | n + 1 => cs ++ zerosR cs n
theorem zerosOf_eq {z : Value} {k : Nat} (hz : z.cells.toList.length = k) (hk : 0 < k) (n : Nat) : zerosOf z k n = zerosR (z.cells.toList.map .v) n := by
  have key : ∀ n, (List.range (n * k)).map (fun i => AV.v (z.cells.getD (i % k) undef)) = zerosR (z.cells.toList.map .v) n := by
    intro n
    induction n with
    | zero => simp [zerosR]
    | succ n ih =>
      rw [zerosR, ← ih, Nat.succ_mul, Nat.add_comm, List.range_add, List.map_append, List.map_map]
      congr 1
      · apply List.ext_getElem
        · simp [← hz]
        · intro i h1 h2
          simp at h1 h2
          simp [Nat.mod_eq_of_lt h1, Array.getD_eq_getD_getElem?]
          rw [Array.getElem?_eq_getElem h2]
          rfl
      · refine List.map_congr_left fun i _ => ?_
        simp
  exact key n
attribute [go_sem] zerosOf_eq zerosR beq_self_eq_true
def fzo (b : Option Bx) (R : AV → AV → Prop) (k off n : Nat) (l : List (List AV)) : Prop :=
  match b with
  | some bx => off + n * k ≤ bx.cs.length ∧ (((bx.cs.drop off).take (n * k) = l.flatten ∧ ∀ r, r ∈ l → ∀ y, y ∈ r → y.isData = true) ∨ fzl R ((bx.cs.drop off).take (n * k)) l.flatten)
  | none => False
theorem fz_osl (box : Boxes) (d b k off n : Nat) (f' : Bool) (k' : Nat) (l' : List (List AV)) : fz box (d + 1) (.osl b k off n) (.sl f' k' l') = ((f' = false ∧ k = k' ∧ 0 < k ∧ n = l'.length ∧ (∀ r, r ∈ l' → r.length = k)) ∧ fzo (bget box b) (fz box d) k off n l') := by
  rw [fz]
  unfold fzo
  refine congrArg _ (propext ⟨?_, ?_⟩)
  · rintro ⟨bx, h, h2⟩
    rw [h]
    exact h2
  · intro h
    split at h
    · rename_i bx hb
      exact ⟨bx, hb, h⟩
    · exact h.elim
def fzp (b : Option Bx) (R : AV → AV → Prop) (off : Nat) (l : List AV) : Prop :=
  match b with
  | some bx => fzl R (bx.cs.drop off) l
  | none => False
theorem fz_ptr (box : Boxes) (d b off : Nat) (l : List AV) : fz box (d + 1) (.ptr b off) (.pp l) = (l ≠ [] ∧ fzp (bget box b) (fz box d) off l) := by
  rw [fz]
  unfold fzp
  refine congrArg _ (propext ⟨?_, ?_⟩)
  · rintro ⟨bx, h, h2⟩
    rw [h]
    exact h2
  · intro h
    split at h
    · rename_i bx hb
      exact ⟨bx, hb, h⟩
    · exact h.elim
def ints? : List AV → Option (List Int)
  | [] => some []
  | .v (.int .i64 n) :: l => match ints? l with
    | some r => some (n :: r)
    | none => none
  | _ => none
theorem mapM_ints : ∀ (l : List AV), l.mapM AV.int? = ints? l
  | [] => by simp [ints?]
  | x :: l => by
    have ih := mapM_ints l
    rw [List.mapM_cons, ih]
    unfold AV.int?
    split
    · simp only [ints?, Option.bind_eq_bind, Option.bind_some]
      cases ints? l <;> rfl
    · rename_i h
      rw [Option.bind_eq_bind, Option.bind_none]
      unfold ints?
      split
      · rename_i e; cases e
      · rename_i n l' e; injection e with e1 e2; exact absurd e1 (h n)
      · rfl
attribute [go_sem] mapM_ints ints?
def scs? : List AV → Option (List Sc)
  | [] => some []
  | .v (.int .i64 n) :: l => match scs? l with
    | some r => some (.i n :: r)
    | none => none
  | .v (.bool x) :: l => match scs? l with
    | some r => some (.b x :: r)
    | none => none
  | _ => none
theorem mapM_scs : ∀ (l : List AV), l.mapM AV.sc? = scs? l
  | [] => by simp [scs?]
  | x :: l => by
    have ih := mapM_scs l
    rw [List.mapM_cons, ih]
    unfold AV.sc?
    split
    · simp only [scs?, Option.bind_eq_bind, Option.bind_some]
      cases scs? l <;> rfl
    · simp only [scs?, Option.bind_eq_bind, Option.bind_some]
      cases scs? l <;> rfl
    · rename_i h1 h2
      rw [Option.bind_eq_bind, Option.bind_none]
      unfold scs?
      split
      · rename_i e; cases e
      · rename_i n l' e; injection e with e1 e2; exact absurd e1 (h1 n)
      · rename_i n l' e; injection e with e1 e2; exact absurd e1 (h2 n)
      · rfl
attribute [go_sem] mapM_scs scs?
theorem fz_vv (box : Boxes) (d : Nat) (a b : Value) : fz box (d + 1) (.v a) (.v b) = (a = b) := by rw [fz]
theorem fz_sl (box : Boxes) (d : Nat) (f f' : Bool) (k k' : Nat) (l l' : List (List AV)) : fz box (d + 1) (.sl f k l) (.sl f' k' l') = (k = k' ∧ l = l' ∧ (f' = true → f = true)) := by rw [fz]
theorem fz_nil (box : Boxes) (d : Nat) (f : Bool) (k : Nat) (l : List (List AV)) : fz box (d + 1) (.v (.slice none 0 0)) (.sl f k l) = (l = []) := by rw [fz]
theorem fz_pp (box : Boxes) (d : Nat) (l l' : List AV) : fz box (d + 1) (.pp l) (.pp l') = (l = l') := by rw [fz]
theorem fz_fn (box : Boxes) (d : Nat) (f f' : Fn) (l l' m m' : List AV) : fz box (d + 1) (.fn f l m) (.fn f' l' m') = (f = f' ∧ fzl (fz box d) l l' ∧ fzl (fz box d) m m') := by rw [fz]
theorem fz_agg (box : Boxes) (d : Nat) (l l' : List AV) : fz box (d + 1) (.agg l) (.agg l') = fzl (fz box d) l l' := by rw [fz]
theorem fz_tup (box : Boxes) (d : Nat) (l l' : List AV) : fz box (d + 1) (.tup l) (.tup l') = fzl (fz box d) l l' := by rw [fz]
theorem fzA_eq (box : Boxes) (x y : AV) : fzA box x y = fz box 6 x y := rfl
/-- Rows of a kind. -/
theorem rows_len {α : Type} {F : α → List AV} {k : Nat} (hk : ∀ x, (F x).length = k) (l : List α) : ∀ r, r ∈ l.map F → r.length = k := by
  intro r hr
  obtain ⟨x, -, rfl⟩ := List.mem_map.1 hr
  exact hk x
theorem fzo_rows {α : Type} {F : α → List AV} {k : Nat} {t : TypeId} {R : AV → AV → Prop} (hk : ∀ x, (F x).length = k) (hd : ∀ x, (F x).all AV.isData = true) (l : List α) {n : Nat} (hn : n = l.length) : fzo (some ⟨t, (l.map F).flatten⟩) R k 0 n (l.map F) := by
  subst hn
  have hl := length_flat (l.map F) (rows_len hk l)
  rw [List.length_map] at hl
  refine ⟨by rw [hl]; omega, .inl ⟨by rw [List.drop_zero]; exact List.take_of_length_le (by rw [hl]; exact Nat.le_refl _), fun r hr y hy => ?_⟩⟩
  obtain ⟨x, -, rfl⟩ := List.mem_map.1 hr
  exact List.all_eq_true.1 (hd x) y hy
attribute [go_sem] fz_osl fz_ptr fz_vv fz_sl fz_nil fz_pp fz_fn fz_agg fz_tup fzA_eq
attribute [go_sem] imp_self fzp true_or or_true or_false false_or
attribute [congr] ldR_congr stR_congr appR_congr srcOf_congr fz_congr fzA_congr

theorem nf1 (s : Bool) : ((!s) = false) = (s = true) := by simp
theorem nf2 (s : Bool) : ((!s) = true) = (s = false) := by simp
attribute [go_sem] List.all_toArray' Bool.not_not Option.isSome_some Option.isSome_none false_implies true_implies nf1 nf2 Value.int.injEq Value.bool.injEq AV.v.injEq Bool.false_eq_true
@[go_sem] theorem arr_size {α : Type} (l : List α) : l.toArray.size = l.length := by simp
@[go_sem] theorem toL {α : Type} (l : List α) : l.toArray.toList = l := by simp
attribute [go_sem ↓] callOps eget_cons eget_nil bget_cons bget_nil oeval_t oeval_c oeval_g oeval_f seval_t seval_c seval_g seval_f opR callR guardOf sevals sevs sevo cndsOK seconds
attribute [go_sem] Nat.beq isSlK lkR taR ixR mmR ofV isConst kindOfT cvR mkR ldR stR fldR idxR binR unR boxR allocR buildR bslR slcR lenR appR extR ncR fieldR pickR cndOK cndOK2
attribute [go_sem] ne_eq not_false_eq_true not_true_eq_false and_true true_and and_self implies_true forall_const
attribute [go_sem] List.all_cons List.all_nil List.any_cons List.any_nil List.length_cons List.length_nil List.cons_append List.nil_append List.append_nil List.map_cons List.map_nil List.drop_succ_cons List.drop_zero List.drop_nil List.take_succ_cons List.take_zero List.take_nil
  List.getElem?_cons_zero List.getElem?_cons_succ List.getElem?_nil List.flatten_cons List.flatten_nil Bool.and_true Bool.true_and Bool.and_false Bool.false_and Bool.or_true Bool.true_or Bool.or_false Bool.false_or Bool.not_true Bool.not_false Bool.cond_true Bool.cond_false Option.getD_some Option.getD_none Option.map_some Option.map_none Int.toNat_natCast decide_true decide_false Bool.and_self Bool.or_self
  List.isEmpty_cons List.isEmpty_nil List.filter_cons List.filter_nil List.reverse_cons Nat.zero_add Nat.add_zero Nat.zero_mul Nat.one_mul Nat.mul_one
attribute [go_sem] imp1 imp2 imp3 imp4 imp5 imp6 imp7 imp8 imp9
attribute [go_sem] AV.strip econs ldAV splice AV.cells AV.flat AV.one kills placesOf knownAll afill srcOf argsL OpS.nm OpS.reads OpS.turns
  Op.operands Call.operands Value.oneCell' Value.cells LEndsL LEndsBL resW fzl pickB liveOf restB fzX endB keptB lives inl okF okT Bx.okN look boxesOK freshOK renF renT Bx.ren injN nmsF nmsT AV.flat0

@[go_sem] theorem ib_add (k : IntKind) (a b : Int) : intBin .add k a b = some (.v (.int k (k.wrap (a + b)))) := by simp only [intBin]
@[go_sem] theorem ib_sub (k : IntKind) (a b : Int) : intBin .sub k a b = some (.v (.int k (k.wrap (a - b)))) := by simp only [intBin]
@[go_sem] theorem ib_mul (k : IntKind) (a b : Int) : intBin .mul k a b = some (.v (.int k (k.wrap (a * b)))) := by simp only [intBin]
@[go_sem] theorem ib_eql (k : IntKind) (a b : Int) : intBin .eql k a b = some (.v (.bool (decide (a = b)))) := by simp only [intBin]; by_cases h : a = b <;> simp [h]
@[go_sem] theorem ib_neq (k : IntKind) (a b : Int) : intBin .neq k a b = some (.v (.bool (!decide (a = b)))) := by simp only [intBin]; by_cases h : a = b <;> simp [h]
@[go_sem] theorem ib_lss (k : IntKind) (a b : Int) : intBin .lss k a b = some (.v (.bool (decide (a < b)))) := by simp only [intBin]
@[go_sem] theorem ib_leq (k : IntKind) (a b : Int) : intBin .leq k a b = some (.v (.bool (decide (a ≤ b)))) := by simp only [intBin]
@[go_sem] theorem ib_gtr (k : IntKind) (a b : Int) : intBin .gtr k a b = some (.v (.bool (decide (b < a)))) := by simp only [intBin]; try rfl
@[go_sem] theorem ib_geq (k : IntKind) (a b : Int) : intBin .geq k a b = some (.v (.bool (decide (b ≤ a)))) := by simp only [intBin]; try rfl
@[go_sem] theorem ib_quo (k : IntKind) (a b : Int) (h : b ≠ 0) : intBin .quo k a b = some (.v (.int k (k.wrap (a.tdiv b)))) := by simp only [intBin, if_neg h]
@[go_sem] theorem ib_rem (k : IntKind) (a b : Int) (h : b ≠ 0) : intBin .rem k a b = some (.v (.int k (a.tmod b))) := by simp only [intBin, if_neg h]
theorem ib_shr (k : IntKind) (a b : Int) (h : 0 ≤ b) : intBin .shr k a b = some (.v (.int k (a.fdiv (2 ^ min b.toNat k.bits)))) := by simp only [intBin, if_neg (Int.not_lt.2 h)]
@[go_sem] theorem ib_shr1 (k : IntKind) (a : Int) : intBin .shr k a 1 = some (.v (.int k (a.fdiv 2))) := by rw [ib_shr _ _ _ (by decide)]; cases k <;> rfl
@[go_sem] theorem ib_and (k : IntKind) (a b : Int) : intBin .and k a b = some (.v (.int k (k.wrap (BitVec.ofInt k.bits a &&& BitVec.ofInt k.bits b).toNat))) := by simp only [intBin]

@[go_sem] theorem pickAV_t (x y : AV) : pickAV true x y = x := by rw [pickAV_eq]; rfl
@[go_sem] theorem pickAV_f (x y : AV) : pickAV false x y = y := by rw [pickAV_eq]; rfl
@[go_sem] theorem pickAV_and (t p : Bool) : pickAV t (.v (.bool p)) (.v (.bool false)) = .v (.bool (t && p)) := by cases t <;> rw [pickAV_eq] <;> rfl
@[go_sem] theorem pickAV_or (t q : Bool) : pickAV t (.v (.bool true)) (.v (.bool q)) = .v (.bool (t || q)) := by cases t <;> rw [pickAV_eq] <;> rfl

attribute [go_sem] Option.toList_some Option.toList_none List.length_map List.length_append List.length_take List.length_drop List.getElem?_map
attribute [go_sem] LCut lcutE lcutB lcutI ren_v ren_any ren_sl ren_pp ren_ptr ren_osl ren_agg ren_tup ren_fn ren_iface ren_iff names_iff names_v names_any names_sl names_pp names_ptr names_osl names_agg names_tup names_fn names_iface
attribute [go_sem] isData_v isData_sl isData_agg isData_tup isData_pp isData_fn id_eq
end Go.Proofs.Ytjplhfmakghabaa.V
