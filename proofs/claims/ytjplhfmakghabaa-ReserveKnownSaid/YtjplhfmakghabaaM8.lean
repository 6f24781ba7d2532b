/- clear of a slice of the call's own. Contracts: files as they were known: claim.At. -/
-- STEPS: new
-- CLR
import Derived.Test.YtjplhfmakghabaaV19
import Derived.Test.YtjplhfmakghabaaN8
set_option linter.unusedSimpArgs false
set_option linter.unusedVariables false
namespace Go.Proofs.Ytjplhfmakghabaa.V
open Go.RowKit
variable {P : Program} {cx : Cx} {env : Env} {box : Boxes} {n0 i : Nat}

theorem y_clear {o : Oper} {ρ : Operand → AV} {t e : TypeId} {y : Operand} {b k off n : Nat} {z : Value} {bx : Bx} (ho : o.op = .call { callee := .builtin .clear, args := #[y], argTypes := #[t] }) (ht : P.underlying t = some (.slice e)) (hz : ∀ w, (zeroValue e).run P w = .ok z w)
    (hzk : z.cells.size = k) (hk0 : 0 < k) (h1 : z.cells.all (·.oneCell') = true) (hy : ρ y = .osl b k off n) (hn0 : 0 < n) (hle : off + n * k ≤ bx.cs.length) : Yields P cx o ρ ⟨[(b, bx)], .v (.tuple #[]), [(b, some ⟨bx.t, splice bx.cs off (zerosOf z k n)⟩)]⟩ := by
  intro ι box used a w hs _ hfp _ hops K Q hK
  have hb : box b = some bx := hfp b bx (by simp)
  have hnk : 0 < n * k := Nat.mul_pos hn0 hk0
  have hne : bx.cs ≠ [] := by intro h; rw [h] at hle; simp at hle; omega
  obtain ⟨g, hg, hgb, hgM, c, hh, hlen, hcs⟩ := hs.ne hb hne
  obtain ⟨cap, hv⟩ : ∃ cap, a.eval y = .slice (some ⟨g, off, none⟩) n cap := by
    have := hops y (mem_ops ho (by simp [Op.operands, Call.operands]))
    rw [hy] at this
    rcases this.osl' with ⟨g', cap, c', t', hv, hg', -⟩ | ⟨h0, -⟩
    · rw [hg] at hg'
      injection hg' with hg'
      subst hg'
      exact ⟨cap, hv⟩
    · omega
  generalize hxs : (Builtin.zeroCells z.cells n).toList = xs
  have hlx : xs.length = n * k := by rw [← hxs]; simp [Builtin.zeroCells, hzk]
  have hone : ∀ x, x ∈ xs → x.oneCell' = true := by
    intro x hx
    obtain ⟨j, hj⟩ := List.mem_iff_getElem?.1 hx
    rw [← hxs] at hj
    rw [Array.getElem?_toList, Builtin.zeroCells] at hj
    obtain ⟨-, -, e3⟩ := zeros_at z.cells (by omega) (n * z.cells.size) j x hj
    exact (Array.all_eq_true_iff_forall_mem.1 h1) x (by simpa using e3)
  have hrun := run_storeCells_at (P := P) g off bx.t xs 0 c w hh (by rw [hlx]; omega) hone
  generalize hc' : (List.take (off + 0) c.toList ++ xs ++ List.drop (off + 0 + xs.length) c.toList).toArray = c' at hrun
  have hrun2 : (execOp a.eval o).run P w = .ok (.value (.tuple #[])) (w.setRow g c') := by
    obtain ⟨m, rfl⟩ : ∃ m, n = m + 1 := ⟨n - 1, by omega⟩
    simp [execOp, ho, resolve, invoke, builtin, Builtin.clear_, run_underlying ht, hv, hz, hxs, hrun]
  unfold Oper.wp
  rw [hrun2, Oper.upon_value]
  refine hK _ ι _ (step_row hs (bx' := ⟨bx.t, splice bx.cs off (zerosOf z k n)⟩) hb hg hh ?_ ?_ rfl ?_) (.d (.v _))
  · rw [← hc']; simp; omega
  · rw [← hc']; simp [splice, zerosOf]; omega
  · intro j v q hjv hjz
    rw [← hc'] at hjv
    have hlz : (zerosOf z k n).length = n * k := by simp [zerosOf]
    simp only [splice, hlz] at hjz
    simp only [Nat.add_zero, hlx, List.getElem?_toArray] at hjv
    have hto : (c.toList.take off).length = off := by simp; omega
    have htb : (bx.cs.take off).length = off := by simp; omega
    rw [List.append_assoc] at hjv hjz
    by_cases h2 : j < off
    · rw [List.getElem?_append_left (by omega)] at hjv hjz
      rw [List.getElem?_take, if_pos h2] at hjv hjz
      exact hcs j v q (by simpa using hjv) hjz
    · rw [List.getElem?_append_right (by omega), hto] at hjv
      rw [List.getElem?_append_right (by omega), htb] at hjz
      by_cases h3 : j - off < n * k
      · rw [List.getElem?_append_left (by omega)] at hjv
        rw [List.getElem?_append_left (by omega)] at hjz
        rw [← hxs] at hjv
        rw [Array.getElem?_toList, Builtin.zeroCells] at hjv
        obtain ⟨e1, e2, e3⟩ := zeros_at z.cells (by omega) (n * z.cells.size) (j - off) v hjv
        rw [zerosOf, List.getElem?_map, List.getElem?_range h3] at hjz
        simp only [Option.map_some, Option.some.injEq] at hjz
        subst hjz
        rw [hzk] at e2
        exact ⟨(Array.all_eq_true_iff_forall_mem.1 h1) v (by simpa using e3), by rw [e2]; exact .d (.v _)⟩
      · rw [List.getElem?_append_right (by omega), hlx, List.getElem?_drop] at hjv
        rw [List.getElem?_append_right (by omega), hlz, List.getElem?_drop] at hjz
        have e : off + n * k + (j - off - n * k) = j := by omega
        rw [e] at hjv hjz
        exact hcs j v q (by simpa using hjv) hjz

def clrR (P : Program) (env : Env) (box : Boxes) (y : Operand) (t : TypeId) : Option (OpS × Prop) :=
  match (tv P t).map TI.k with
  | some (.slice e) => match tv P e with
    | some j => match seval env y with
      | .osl b k off n => match bget box b with
        | some bx => some (⟨[(b, bx)], .v (.tuple #[]), [(b, some ⟨bx.t, splice bx.cs off (zerosOf j.zero j.size n)⟩)]⟩, cndOK True (oeval env y) ∧ j.zero.cells.size = j.size ∧ 0 < j.size ∧ j.zero.cells.all (·.oneCell') = true ∧ k = j.size ∧ 0 < n ∧ off + n * k ≤ bx.cs.length)
        | none => none
      | _ => none
    | none => none
  | _ => none

variable {ops : Array Oper} {draw : Bool} {rest : List Oper} {u : List Nat} {acc : List (List Nat × List Nat)} {K : Env → Boxes → Prop} {dst : Option Tmp} {ty : TypeId} {pos : String} {after : Array Edge} {S : OpS} {c : Prop}
theorem rs_clr {y : Operand} {t : TypeId} (hy : clrR P env box y t = some (S, c)) (hK : regK P cx ops draw n0 rest i env box u acc K dst S) (hc : c) :
    regW P cx ops draw n0 ({ dst := dst, op := .call ⟨.builtin .clear, #[y], #[t]⟩, type := ty, pos := pos, after := after, guard := none } :: rest) i env box u acc K := by
  unfold clrR at hy
  split at hy
  · rename_i e hi
    simp only [Option.map_eq_some_iff] at hi
    obtain ⟨ti, hi, hk⟩ := hi
    split at hy
    · rename_i j hj
      split at hy
      · rename_i b k off n hs
        split at hy
        · rename_i bx hb
          injection hy with hy
          injection hy with h1 h2
          subst h1 h2
          obtain ⟨c0, c1, c2, c3, rfl, c5, c6⟩ := hc
          have h := y_clear (P := P) (cx := cx) (o := { dst := dst, op := .call ⟨.builtin .clear, #[y], #[t]⟩, type := ty, pos := pos, after := after, guard := none }) (ρ := seval env) rfl (tv_slice hi hk) (tv_zero hj) c1 c2 c3 hs c5 c6
          refine ⟨⟨c0, trivial⟩, ?_⟩
          refine ⟨_, fun _ => h, fun b' x hm => ?_, fun b' x hm => ?_, hK⟩
          · simp only [List.mem_singleton, Prod.mk.injEq] at hm
            obtain ⟨rfl, rfl⟩ := hm
            exact hb
          · simp only [List.mem_singleton, Prod.mk.injEq] at hm
            obtain ⟨rfl, -⟩ := hm
            exact .inl ⟨_, List.mem_singleton.2 rfl⟩
        · cases hy
      · cases hy
    · cases hy
  · cases hy
/-- The same, with marks on what is to be shown beside. -/
theorem Bg {y : Operand} {t : TypeId} (hy : ByE (clrR P env box y t = some (S, c))) (hK : regK P cx ops draw n0 rest i env box u acc K dst S) (hc : c) :
    regW P cx ops draw n0 ({ dst := dst, op := .call ⟨.builtin .clear, #[y], #[t]⟩, type := ty, pos := pos, after := after, guard := none } :: rest) i env box u acc K := rs_clr hy hK hc
attribute [go_sem ↓] clrR
end Go.Proofs.Ytjplhfmakghabaa.V
namespace Go.Proofs.Ytjplhfmakghabaa.V
open Go.RowKit
set_option maxRecDepth 100000
attribute [local go_sem] Option.toList_some Option.toList_none

@[go_sem] theorem rowK_ren (r : Nat → Nat) (l : List Act) : (rowC Act.flat l).map (AV.ren r) = rowC Act.flat l := rowA_ren r l
@[go_sem] theorem rowK_nms (p : Nat → Bool) (l : List Act) : (rowC Act.flat l).all (AV.names p) = true := rowA_nms p l
theorem rowK_len (l : List Act) : (rowC Act.flat l).length = l.length * 3 := rowC_len (F := Act.flat) (k := 3) (fun _ => rfl) l
theorem rowK_app (l m : List Act) : rowC Act.flat (l ++ m) = rowC Act.flat l ++ rowC Act.flat m := by simp [rowC]
theorem rowK_cons (x : Act) (l : List Act) : rowC Act.flat (x :: l) = [int x.booked, int x.kind, int x.amt] ++ rowC Act.flat l := by simp [rowC, Act.flat]
theorem rowK_nz {l : List Act} (h : 0 < l.length) : (rowC Act.flat l = []) ↔ False := by
  rw [iff_false, ← List.length_eq_zero_iff, rowK_len]
  omega
theorem rowK_some {l : List Act} {i : Nat} {x : Act} (h : l[i]? = some x) : ((rowC Act.flat l).drop (i * 3)).take 3 = x.flat := by
  induction l generalizing i with
  | nil => simp at h
  | cons y l ih =>
    rw [rowK_cons]
    rcases i with _ | i
    · simp at h; subst h; simp [Act.flat]
    · have h' : l[i]? = some x := by simpa using h
      have : (i + 1) * 3 = 3 + i * 3 := by omega
      rw [this, ← List.drop_drop]
      simp only [List.cons_append, List.nil_append, List.drop_succ_cons, List.drop_zero]
      exact ih h'
theorem rowK_put (l : List Act) (i : Nat) (x : Act) (h : i < l.length) : List.take (i * 3) (rowC Act.flat l) ++ [int x.booked, int x.kind, int x.amt] ++ List.drop (i * 3 + 3) (rowC Act.flat l) = rowC Act.flat (l.set i x) := by
  induction l generalizing i with
  | nil => simp at h
  | cons y l ih =>
    rw [rowK_cons]
    rcases i with _ | i
    · simp [rowK_cons]
    · have h' : i < l.length := by simpa using h
      have := ih i h'
      rw [List.set_cons_succ, rowK_cons, ← this, show (i + 1) * 3 = i * 3 + 3 by omega, show i * 3 + 3 + 3 = (i * 3 + 3) + 3 by omega]
      simp
@[go_sem] theorem le3 (j n : Nat) : (j * 3 + 3 ≤ n * 3) = (j < n) := propext ⟨fun h => by omega, fun h => by omega⟩

/-! ### What was known -/
def keepD (d : Int) (l : List Act) : List Act := l.filter fun a => decide (a.booked ≤ d)
def fstD (d : Int) : Nat → List Act → Int
  | _, [] => -1
  | i, a :: l => if d < a.booked then (i : Int) else fstD d (i + 1) l
theorem fstD_is (d : Int) : ∀ (l : List Act) (i : Nat), (fstD d i l = -1 ∧ keepD d l = l) ∨ ∃ k a, l[k]? = some a ∧ fstD d i l = ((i + k : Nat) : Int) ∧ d < a.booked ∧ keepD d (l.take k) = l.take k
  | [], _ => .inl ⟨rfl, rfl⟩
  | a :: l, i => by
    rw [fstD]
    by_cases h : d < a.booked
    · rw [if_pos h]
      exact .inr ⟨0, a, rfl, rfl, h, rfl⟩
    · rw [if_neg h]
      have hc : ∀ m, keepD d (a :: m) = a :: keepD d m := fun m => List.filter_cons_of_pos (by simp; omega)
      rcases fstD_is d l (i + 1) with ⟨h1, h2⟩ | ⟨k, b, h1, h2, h3, h4⟩
      · exact .inl ⟨h1, by rw [hc, h2]⟩
      · exact .inr ⟨k + 1, b, by simpa using h1, by rw [h2]; congr 1; omega, h3, by rw [List.take_succ_cons, hc, h4]⟩
theorem keepD_snoc (d : Int) {l : List Act} {j : Nat} {a : Act} (h : l[j]? = some a) : keepD d (l.take (j + 1)) = keepD d (l.take j) ++ if a.booked ≤ d then [a] else [] := by
  rw [List.take_add_one, h, keepD, List.filter_append]
  by_cases hb : a.booked ≤ d <;> simp [keepD, hb]
theorem keepD_le (d : Int) (l : List Act) : (keepD d l).length ≤ l.length := List.length_filter_le _ _
def File.at (f : File) (d : Int) : File := ⟨f.claim, keepD d f.acts⟩

theorem at1_f (d : Int) (a : Act) : Fun Try.prog 65 [.agg a.flat, .pp [int d]] (bool (decide (a.booked > d))) := by
  refine fun_W mixed Try.func65 rfl (Nat.le_of_ble_eq_true rfl) (by kernel_rfl) fun cx hN hR hF hL => ?_; apply args_k; (case hA => (simp only [go_sem, ↓reduceIte]; rfl))
  (with_reducible repeat' (first|exact trivial|(apply byE;simp only [go_sem, ↓reduceIte];try rfl)|apply Bg|apply Aa|apply As|apply Au|apply Av|apply Aj|apply At|apply Aw|apply Ab|apply Ac|apply Ad|apply Ae|apply Af|apply Ag|apply Ah|apply Ai|apply Ak|apply Al|((first|apply An|apply Ao);(case hs=>with_unfolding_all rfl))|apply Am|apply Ap|apply Aq|apply Ar|apply Ax|apply Ay|apply Az|apply Ba|apply Bb|apply Bc|apply Bd|apply Be|apply Ca|apply Cb|apply Cc|apply Cd|apply Ce|apply Cf|apply Cg|apply Ch|apply Ci|apply Bf|apply Cj|apply Ck|apply Cl|apply Cm|apply Cn|apply Co|apply Cp|(apply byR;with_unfolding_all rfl)|((first|apply byKt|apply byKs);kernel_rfl)|(apply byL;simp only [econs,List.map_cons,List.map_nil,List.cons_append,List.nil_append,OpS.nm,OpS.reads,OpS.turns,Nat.reduceAdd];try with_unfolding_all rfl)|(apply byG;intro hg;try simp only [hg])|(apply byQ;intro hq;try simp only [hqs] at hq;try (exfalso;omega))|(apply byI;intro K hK)|(apply byH;repeat (first|exact dst_z rfl|apply dst_s))|(apply byN;unfold NapOK;kernel_rfl)|(apply byD;first|(simp;done)|(simp [go_sem];done))|(refine hK _ _ ?_;clear hK;clear K)|omega|contradiction))
theorem idx_f (d : Int) (l : List Act) : Fun Try.prog 90 [actsA l, .fn (.func 65) [] [.pp [int d]]] (int (fstD d 0 l)) := by
  refine fun_W mixed Try.func90 rfl (Nat.le_of_ble_eq_true rfl) (by kernel_rfl) fun cx hN hR hF hL => ?_; apply args_k; (case hA => (simp only [go_sem, ↓reduceIte]; rfl))
  have hl : l.length ≤ 9223372036854775807 := by
    simp [maxLen] at hL
    omega
  generalize hr : fstD d 0 l = r
  (with_reducible repeat' (first|exact trivial|(apply byE;simp only [go_sem, ↓reduceIte];try rfl)|apply Bg|apply Aa|apply As|apply Au|apply Av|apply Aj|apply At|apply Aw|apply Ab|apply Ac|apply Ad|apply Ae|apply Af|apply Ag|apply Ah|apply Ai|apply Ak|apply Al|((first|apply An|apply Ao);(case hs=>with_unfolding_all rfl))|apply Am|apply Ap|apply Aq|apply Ar|apply Ax|apply Ay|apply Az|apply Ba|apply Bb|apply Bc|apply Bd|apply Be|apply Ca|apply Cb|apply Cc|apply Cd|apply Ce|apply Cf|apply Cg|apply Ch|apply Ci|apply Bf|apply Cj|apply Ck|apply Cl|apply Cm|apply Cn|apply Co|apply Cp|(apply byR;with_unfolding_all rfl)|((first|apply byKt|apply byKs);kernel_rfl)|(apply byL;simp only [econs,List.map_cons,List.map_nil,List.cons_append,List.nil_append,OpS.nm,OpS.reads,OpS.turns,Nat.reduceAdd];try with_unfolding_all rfl)|(apply byG;intro hg;try simp only [hg])|(apply byQ;intro hq;try simp only [hqs] at hq;try (exfalso;omega))|(apply byI;intro K hK)|(apply byH;repeat (first|exact dst_z rfl|apply dst_s))|(apply byN;unfold NapOK;kernel_rfl)|(apply byD;first|(simp;done)|(simp [go_sem];done))|(refine hK _ _ ?_;clear hK;clear K)|omega|contradiction))
  refine loopW mixed (σ := {i : Nat // i ≤ l.length ∧ fstD d i (l.drop i) = r}) (fun s => ⟨[(8, int s.1), (7, int l.length), (1, .fn (.func 65) [] [.pp [int d]]), (0, actsA l)], [], 3000⟩) (fun s => l.length - s.1) id ⟨0, by omega, hr⟩ (by rw [hN]; kernel_rfl) ?_ ?_
  · simp only [go_sem, ↓reduceIte, hF]
    rfl
  · rintro ⟨i, h1, h2⟩
    by_cases hi : i < l.length
    · have e0 : l[i]? = some l[i] := List.getElem?_eq_getElem hi
      have e1 : (l.map Act.flat)[i]? = some l[i].flat := by rw [List.getElem?_map, e0]; rfl
      have e2 : IntKind.i64.wrap ((i : Int) + 1) = ((i + 1 : Nat) : Int) := by rw [wrap_id] <;> omega
      have hk1 : i < (l.map Act.flat).length := by simpa using hi
      have h3 : fstD d i (l.drop i) = if d < l[i].booked then (i : Int) else fstD d (i + 1) (l.drop (i + 1)) := by rw [List.drop_eq_getElem_cons hi, fstD]
      generalize l[i] = a at *
      by_cases hd : d < a.booked
      · have k := at1_f d a
        rw [decide_eq_true hd] at k
        rw [if_pos hd] at h3
        obtain rfl : (i : Int) = r := h3.symm.trans h2
        (with_reducible repeat' (first|exact trivial|(apply byE;simp only [go_sem, ↓reduceIte, e1, e2, hk1];try rfl)|apply Bg|apply Aa|apply As|apply Au|apply Av|apply Aj|apply At|apply Aw|apply Ab|apply Ac|apply Ad|apply Ae|apply Af|apply Ag|apply Ah|apply Ai|apply Ak|apply Al|((first|apply An|apply Ao);(case hs=>with_unfolding_all rfl))|apply Am|apply Ap|apply Aq|apply Ar|apply Ax|apply Ay|apply Az|apply Ba|apply Bb|apply Bc|apply Bd|apply Be|apply Ca|apply Cb|apply Cc|apply Cd|apply Ce|apply Cf|apply Cg|apply Ch|apply Ci|apply Bf|apply Cj|apply Ck|apply Cl|apply Cm|apply Cn|apply Co|apply Cp|(apply byR;with_unfolding_all rfl)|((first|apply byKt|apply byKs);kernel_rfl)|(apply byL;simp only [econs,List.map_cons,List.map_nil,List.cons_append,List.nil_append,OpS.nm,OpS.reads,OpS.turns,Nat.reduceAdd];try with_unfolding_all rfl)|(apply byG;intro hg;try simp only [hg])|(apply byQ;intro hq;try simp only [hqs] at hq;try (exfalso;omega))|(apply byI;intro K hK)|(apply byH;repeat (first|exact dst_z rfl|apply dst_s))|(apply byN;unfold NapOK;kernel_rfl)|(apply byD;first|(simp;done)|(simp [go_sem];done))|(refine hK _ _ ?_;clear hK;clear K)|omega|(apply callX cl65 (k);(case hl=>with_unfolding_all rfl))|contradiction))
      · have k := at1_f d a
        rw [decide_eq_false hd] at k
        rw [if_neg hd] at h3
        (with_reducible repeat' (first|exact trivial|(apply byE;simp only [go_sem, ↓reduceIte, e1, e2, hk1];try rfl)|apply Bg|apply Aa|apply As|apply Au|apply Av|apply Aj|apply At|apply Aw|apply Ab|apply Ac|apply Ad|apply Ae|apply Af|apply Ag|apply Ah|apply Ai|apply Ak|apply Al|((first|apply An|apply Ao);(case hs=>with_unfolding_all rfl))|apply Am|apply Ap|apply Aq|apply Ar|apply Ax|apply Ay|apply Az|apply Ba|apply Bb|apply Bc|apply Bd|apply Be|apply Ca|apply Cb|apply Cc|apply Cd|apply Ce|apply Cf|apply Cg|apply Ch|apply Ci|apply Bf|apply Cj|apply Ck|apply Cl|apply Cm|apply Cn|apply Co|apply Cp|(apply byR;with_unfolding_all rfl)|((first|apply byKt|apply byKs);kernel_rfl)|(apply byL;simp only [econs,List.map_cons,List.map_nil,List.cons_append,List.nil_append,OpS.nm,OpS.reads,OpS.turns,Nat.reduceAdd];try with_unfolding_all rfl)|(apply byG;intro hg;try simp only [hg])|(apply byQ;intro hq;try simp only [hqs] at hq;try (exfalso;omega))|(apply byI;intro K hK)|(apply byH;repeat (first|exact dst_z rfl|apply dst_s))|(apply byN;unfold NapOK;kernel_rfl)|(apply byD;first|(simp;done)|(simp [go_sem];done))|(refine hK _ _ ?_;clear hK;clear K)|omega|(apply callX cl65 (k);(case hl=>with_unfolding_all rfl))|contradiction))
        refine ⟨⟨i + 1, hi, h3.symm.trans h2⟩, id, ?_, by show l.length - (i + 1) < l.length - i; omega⟩
        simp only [go_sem, ↓reduceIte, hF]
    · obtain rfl : i = l.length := by omega
      obtain rfl : -1 = r := by rw [← h2, List.drop_length]; rfl
      (with_reducible repeat' (first|exact trivial|(apply byE;simp only [go_sem, ↓reduceIte, Int.reduceNeg];try rfl)|apply Bg|apply Aa|apply As|apply Au|apply Av|apply Aj|apply At|apply Aw|apply Ab|apply Ac|apply Ad|apply Ae|apply Af|apply Ag|apply Ah|apply Ai|apply Ak|apply Al|((first|apply An|apply Ao);(case hs=>with_unfolding_all rfl))|apply Am|apply Ap|apply Aq|apply Ar|apply Ax|apply Ay|apply Az|apply Ba|apply Bb|apply Bc|apply Bd|apply Be|apply Ca|apply Cb|apply Cc|apply Cd|apply Ce|apply Cf|apply Cg|apply Ch|apply Ci|apply Bf|apply Cj|apply Ck|apply Cl|apply Cm|apply Cn|apply Co|apply Cp|(apply byR;with_unfolding_all rfl)|((first|apply byKt|apply byKs);kernel_rfl)|(apply byL;simp only [econs,List.map_cons,List.map_nil,List.cons_append,List.nil_append,OpS.nm,OpS.reads,OpS.turns,Nat.reduceAdd];try with_unfolding_all rfl)|(apply byG;intro hg;try simp only [hg])|(apply byQ;intro hq;try simp only [hqs] at hq;try (exfalso;omega))|(apply byI;intro K hK)|(apply byH;repeat (first|exact dst_z rfl|apply dst_s))|(apply byN;unfold NapOK;kernel_rfl)|(apply byD;first|(simp;done)|(simp [go_sem];done))|(refine hK _ _ ?_;clear hK;clear K)|omega|contradiction))
theorem fz_acts {box : Boxes} {b n : Nat} {t : TypeId} {L : List Act} (d : Nat) (h : bget box b = some ⟨t, rowC Act.flat L⟩) (hn : n = L.length) : fz box (d + 1) (.osl b 3 0 n) (actsA L) := by
  rw [fz_osl, h]
  exact ⟨⟨rfl, rfl, by omega, by simp [hn], rows_len (F := Act.flat) (fun _ => rfl) L⟩, fzo_rows (F := Act.flat) (k := 3) (fun _ => rfl) (fun _ => by simp [Act.flat]) L hn⟩
theorem zeros3_len : ∀ n, (zerosR [int 0, int 0, int 0] n).length = n * 3
  | 0 => rfl
  | n + 1 => by rw [zerosR, List.length_append, zeros3_len n]; simp; omega
theorem zeros3_nms (p : Nat → Bool) : ∀ n, (zerosR [int 0, int 0, int 0] n).all (AV.names p) = true
  | 0 => rfl
  | n + 1 => by rw [zerosR, List.all_append, zeros3_nms p n]; simp [AV.names]
@[go_sem] theorem zeros3_nm (p : Nat → Bool) (n : Nat) : (∀ x, x ∈ zerosR [int 0, int 0, int 0] n → AV.names p x = true) ↔ True := by
  simp only [iff_true]
  exact List.all_eq_true.1 (zeros3_nms p n)
@[go_sem] theorem zeros3_ren (r : Nat → Nat) : ∀ n, (zerosR [int 0, int 0, int 0] n).map (AV.ren r) = zerosR [int 0, int 0, int 0] n
  | 0 => rfl
  | n + 1 => by rw [zerosR, List.map_append, zeros3_ren r n]; simp [AV.ren]
theorem cloneK_f (l : List Act) (hl : l.length ≤ 100000) : FunB Try.prog 63 [] [actsA l] (.osl 0 3 0 l.length) [(0, some ⟨50, rowC Act.flat l⟩)] := cloneB_f l hl
theorem fzo_pre (t : TypeId) (R : AV → AV → Prop) (L : List Act) (Z : List AV) : fzo (some ⟨t, rowC Act.flat L ++ Z⟩) R 3 0 L.length (L.map Act.flat) := by
  have h := rowK_len L
  refine ⟨by simp only [List.length_append]; omega, .inl ⟨?_, ?_⟩⟩
  · rw [List.drop_zero, ← h, List.take_left]
    rfl
  · intro r hr y hy
    obtain ⟨a, -, rfl⟩ := List.mem_map.1 hr
    simp only [Act.flat, List.mem_cons, List.not_mem_nil, or_false] at hy
    rcases hy with rfl | rfl | rfl <;> simp
/-- Nothing is left out. -/
theorem del0_f (d : Int) (l : List Act) (h : fstD d 0 l = -1) : FunB Try.prog 64 [(0, ⟨3, [int d]⟩)] [actsA l, .fn (.func 65) [] [.ptr 0 0]] (actsA l) [] := by
  have k := idx_f d l
  rw [h] at k
  refine fun_WB 1 mixed Try.func64 rfl (Nat.le_of_ble_eq_true rfl) (by kernel_rfl) (by simp [go_sem]) fun cx hN hR hF hL => ?_; apply args_kb; (case hA => (simp only [go_sem, ↓reduceIte]; rfl)); (case hB => (simp only [go_sem, ↓reduceIte]; rfl))
  (with_reducible repeat' (first|exact trivial|(apply byE;simp only [go_sem, ↓reduceIte];try rfl)|apply Bg|apply Aa|apply As|apply Au|apply Av|apply Aj|apply At|apply Aw|apply Ab|apply Ac|apply Ad|apply Ae|apply Af|apply Ag|apply Ah|apply Ai|apply Ak|apply Al|((first|apply An|apply Ao);(case hs=>with_unfolding_all rfl))|apply Am|apply Ap|apply Aq|apply Ar|apply Ax|apply Ay|apply Az|apply Ba|apply Bb|apply Bc|apply Bd|apply Be|apply Ca|apply Cb|apply Cc|apply Cd|apply Ce|apply Cf|apply Cg|apply Ch|apply Ci|apply Bf|apply Cj|apply Ck|apply Cl|apply Cm|apply Cn|apply Co|apply Cp|(apply byR;with_unfolding_all rfl)|((first|apply byKt|apply byKs);kernel_rfl)|(apply byL;simp only [econs,List.map_cons,List.map_nil,List.cons_append,List.nil_append,OpS.nm,OpS.reads,OpS.turns,Nat.reduceAdd];try with_unfolding_all rfl)|(apply byG;intro hg;try simp only [hg])|(apply byQ;intro hq;try simp only [hqs] at hq;try (exfalso;omega))|(apply byI;intro K hK)|(apply byH;repeat (first|exact dst_z rfl|apply dst_s))|(apply byN;unfold NapOK;kernel_rfl)|(apply byD;first|(simp;done)|(simp [go_sem];done))|(refine hK _ _ ?_;clear hK;clear K)|omega|contradiction))
  (apply callL' [0] cl90 (k); (case hp | hl => (simp only [go_sem, ↓reduceIte]; try rfl)); (case hx => (simp [AV.flat0])); (try (case hfz => (first | (simp only [go_sem]; done) | (simp [go_sem, fzo]; done)))))
  (with_reducible repeat' (first|exact trivial|(apply byE;simp only [go_sem, ↓reduceIte];try rfl)|apply Bg|apply Aa|apply As|apply Au|apply Av|apply Aj|apply At|apply Aw|apply Ab|apply Ac|apply Ad|apply Ae|apply Af|apply Ag|apply Ah|apply Ai|apply Ak|apply Al|((first|apply An|apply Ao);(case hs=>with_unfolding_all rfl))|apply Am|apply Ap|apply Aq|apply Ar|apply Ax|apply Ay|apply Az|apply Ba|apply Bb|apply Bc|apply Bd|apply Be|apply Ca|apply Cb|apply Cc|apply Cd|apply Ce|apply Cf|apply Cg|apply Ch|apply Ci|apply Bf|apply Cj|apply Ck|apply Cl|apply Cm|apply Cn|apply Co|apply Cp|(apply byR;with_unfolding_all rfl)|((first|apply byKt|apply byKs);kernel_rfl)|(apply byL;simp only [econs,List.map_cons,List.map_nil,List.cons_append,List.nil_append,OpS.nm,OpS.reads,OpS.turns,Nat.reduceAdd];try with_unfolding_all rfl)|(apply byG;intro hg;try simp only [hg])|(apply byQ;intro hq;try simp only [hqs] at hq;try (exfalso;omega))|(apply byI;intro K hK)|(apply byH;repeat (first|exact dst_z rfl|apply dst_s))|(apply byN;unfold NapOK;kernel_rfl)|(apply byD;first|(simp;done)|(simp [go_sem];done))|(refine hK _ _ ?_;clear hK;clear K)|omega|contradiction))
set_option maxHeartbeats 4000000 in
theorem del_f (d : Int) (l : List Act) (h0 : 0 < l.length) (hl : l.length ≤ 100000) : FunB Try.prog 64 [(0, ⟨50, rowC Act.flat l⟩), (1, ⟨3, [int d]⟩)] [.osl 0 3 0 l.length, .fn (.func 65) [] [.ptr 1 0]] (.osl 0 3 0 (keepD d l).length)
    [(0, some ⟨50, rowC Act.flat (keepD d l) ++ zerosR [int 0, int 0, int 0] (l.length - (keepD d l).length)⟩)] := by
  have k := idx_f d l
  have kl := keepD_le d l
  have hz := rowK_nz h0
  rcases fstD_is d l 0 with ⟨h1, h2⟩ | ⟨i0, a0, h1, h2, h3, h4⟩
  · rw [h1] at k
    rw [h2, Nat.sub_self, zerosR, List.append_nil]
    refine fun_WB 2 mixed Try.func64 rfl (Nat.le_of_ble_eq_true rfl) (by kernel_rfl) (by simp [go_sem, hz]) fun cx hN hR hF hL => ?_; apply args_kb; (case hA => (simp only [go_sem, ↓reduceIte]; rfl)); (case hB => (simp only [go_sem, ↓reduceIte]; rfl))
    (with_reducible repeat' (first|exact trivial|(apply byE;simp only [go_sem, ↓reduceIte];try rfl)|apply Bg|apply Aa|apply As|apply Au|apply Av|apply Aj|apply At|apply Aw|apply Ab|apply Ac|apply Ad|apply Ae|apply Af|apply Ag|apply Ah|apply Ai|apply Ak|apply Al|((first|apply An|apply Ao);(case hs=>with_unfolding_all rfl))|apply Am|apply Ap|apply Aq|apply Ar|apply Ax|apply Ay|apply Az|apply Ba|apply Bb|apply Bc|apply Bd|apply Be|apply Ca|apply Cb|apply Cc|apply Cd|apply Ce|apply Cf|apply Cg|apply Ch|apply Ci|apply Bf|apply Cj|apply Ck|apply Cl|apply Cm|apply Cn|apply Co|apply Cp|(apply byR;with_unfolding_all rfl)|((first|apply byKt|apply byKs);kernel_rfl)|(apply byL;simp only [econs,List.map_cons,List.map_nil,List.cons_append,List.nil_append,OpS.nm,OpS.reads,OpS.turns,Nat.reduceAdd];try with_unfolding_all rfl)|(apply byG;intro hg;try simp only [hg])|(apply byQ;intro hq;try simp only [hqs] at hq;try (exfalso;omega))|(apply byI;intro K hK)|(apply byH;repeat (first|exact dst_z rfl|apply dst_s))|(apply byN;unfold NapOK;kernel_rfl)|(apply byD;first|(simp;done)|(simp [go_sem];done))|(refine hK _ _ ?_;clear hK;clear K)|omega|contradiction))
    (apply callL' [0, 1] cl90 (k); (case hp | hl => (simp only [go_sem, ↓reduceIte]; try rfl)); (case hx => (simp [AV.flat0])); (try (case hfz => (first | (simp only [go_sem]; done) | (simp [go_sem, fzo]; done)))))
    · refine ⟨fz_acts 5 rfl rfl, ?_, trivial⟩
      simp [go_sem, fzp]
    (with_reducible repeat' (first|exact trivial|(apply byE;simp only [go_sem, ↓reduceIte];try rfl)|apply Bg|apply Aa|apply As|apply Au|apply Av|apply Aj|apply At|apply Aw|apply Ab|apply Ac|apply Ad|apply Ae|apply Af|apply Ag|apply Ah|apply Ai|apply Ak|apply Al|((first|apply An|apply Ao);(case hs=>with_unfolding_all rfl))|apply Am|apply Ap|apply Aq|apply Ar|apply Ax|apply Ay|apply Az|apply Ba|apply Bb|apply Bc|apply Bd|apply Be|apply Ca|apply Cb|apply Cc|apply Cd|apply Ce|apply Cf|apply Cg|apply Ch|apply Ci|apply Bf|apply Cj|apply Ck|apply Cl|apply Cm|apply Cn|apply Co|apply Cp|(apply byR;with_unfolding_all rfl)|((first|apply byKt|apply byKs);kernel_rfl)|(apply byL;simp only [econs,List.map_cons,List.map_nil,List.cons_append,List.nil_append,OpS.nm,OpS.reads,OpS.turns,Nat.reduceAdd];try with_unfolding_all rfl)|(apply byG;intro hg;try simp only [hg])|(apply byQ;intro hq;try simp only [hqs] at hq;try (exfalso;omega))|(apply byI;intro K hK)|(apply byH;repeat (first|exact dst_z rfl|apply dst_s))|(apply byN;unfold NapOK;kernel_rfl)|(apply byD;first|(simp;done)|(simp [go_sem];done))|(refine hK _ _ ?_;clear hK;clear K)|omega|contradiction))
  · rw [h2, Nat.zero_add] at k
    have hi0 := (List.getElem?_eq_some_iff.1 h1).1
    have w0 : IntKind.i64.wrap ((i0 : Int) + 1) = ((i0 + 1 : Nat) : Int) := by rw [wrap_id] <;> omega
    have hm1 : ((i0 : Int) = -1) = False := eq_false (by omega)
    have hk0 : keepD d (l.take (i0 + 1)) = l.take i0 := by rw [keepD_snoc d h1, h4, if_neg (by omega), List.append_nil]
    have hl0 : (l.take i0).length = i0 := by rw [List.length_take, Nat.min_eq_left (by omega)]
    have hL0 : l.take i0 ++ [a0] ++ l.drop (i0 + 1) = l := by
      have : l.take (i0 + 1) = l.take i0 ++ [a0] := by rw [List.take_add_one, h1]; rfl
      rw [← this, List.take_append_drop]
    refine fun_WB 2 mixed Try.func64 rfl (Nat.le_of_ble_eq_true rfl) (by kernel_rfl) (by simp [go_sem, hz]) fun cx hN hR hF hL => ?_; apply args_kb; (case hA => (simp only [go_sem, ↓reduceIte]; rfl)); (case hB => (simp only [go_sem, ↓reduceIte]; rfl))
    (with_reducible repeat' (first|exact trivial|(apply byE;simp only [go_sem, ↓reduceIte];try rfl)|apply Bg|apply Aa|apply As|apply Au|apply Av|apply Aj|apply At|apply Aw|apply Ab|apply Ac|apply Ad|apply Ae|apply Af|apply Ag|apply Ah|apply Ai|apply Ak|apply Al|((first|apply An|apply Ao);(case hs=>with_unfolding_all rfl))|apply Am|apply Ap|apply Aq|apply Ar|apply Ax|apply Ay|apply Az|apply Ba|apply Bb|apply Bc|apply Bd|apply Be|apply Ca|apply Cb|apply Cc|apply Cd|apply Ce|apply Cf|apply Cg|apply Ch|apply Ci|apply Bf|apply Cj|apply Ck|apply Cl|apply Cm|apply Cn|apply Co|apply Cp|(apply byR;with_unfolding_all rfl)|((first|apply byKt|apply byKs);kernel_rfl)|(apply byL;simp only [econs,List.map_cons,List.map_nil,List.cons_append,List.nil_append,OpS.nm,OpS.reads,OpS.turns,Nat.reduceAdd];try with_unfolding_all rfl)|(apply byG;intro hg;try simp only [hg])|(apply byQ;intro hq;try simp only [hqs] at hq;try (exfalso;omega))|(apply byI;intro K hK)|(apply byH;repeat (first|exact dst_z rfl|apply dst_s))|(apply byN;unfold NapOK;kernel_rfl)|(apply byD;first|(simp;done)|(simp [go_sem];done))|(refine hK _ _ ?_;clear hK;clear K)|omega|contradiction))
    (apply callL' [0, 1] cl90 (k); (case hp | hl => (simp only [go_sem, ↓reduceIte]; try rfl)); (case hx => (simp [AV.flat0])); (try (case hfz => (first | (simp only [go_sem]; done) | (simp [go_sem, fzo]; done)))))
    · refine ⟨fz_acts 5 rfl rfl, ?_, trivial⟩
      simp [go_sem, fzp]
    (with_reducible repeat' (first|exact trivial|(apply byE;simp only [go_sem, ↓reduceIte, w0, hm1, decide_eq_false (of_eq_false hm1)];try rfl)|apply Bg|apply Aa|apply As|apply Au|apply Av|apply Aj|apply At|apply Aw|apply Ab|apply Ac|apply Ad|apply Ae|apply Af|apply Ag|apply Ah|apply Ai|apply Ak|apply Al|((first|apply An|apply Ao);(case hs=>with_unfolding_all rfl))|apply Am|apply Ap|apply Aq|apply Ar|apply Ax|apply Ay|apply Az|apply Ba|apply Bb|apply Bc|apply Bd|apply Be|apply Ca|apply Cb|apply Cc|apply Cd|apply Ce|apply Cf|apply Cg|apply Ch|apply Ci|apply Bf|apply Cj|apply Ck|apply Cl|apply Cm|apply Cn|apply Co|apply Cp|(apply byR;with_unfolding_all rfl)|((first|apply byKt|apply byKs);kernel_rfl)|(apply byL;simp only [econs,List.map_cons,List.map_nil,List.cons_append,List.nil_append,OpS.nm,OpS.reads,OpS.turns,Nat.reduceAdd];try with_unfolding_all rfl)|(apply byG;intro hg;try simp only [hg])|(apply byQ;intro hq;try simp only [hqs] at hq;try (exfalso;omega))|(apply byI;intro K hK)|(apply byH;repeat (first|exact dst_z rfl|apply dst_s))|(apply byN;unfold NapOK;kernel_rfl)|(apply byD;first|(simp;done)|(simp [go_sem];done))|(refine hK _ _ ?_;clear hK;clear K)|omega|contradiction))
    have hFb : ∀ b g, cx.F b = some g → b < 4002 := fun b g h => by
      have := hF b g h
      simp [inl] at this
      omega
    refine loopW mixed (σ := {s : Nat × List Act × List Act // s.1 ≤ l.length ∧ i0 < s.1 ∧ keepD d (l.take s.1) = s.2.1 ∧ s.2.1.length + s.2.2.length = s.1 ∧ 0 < s.2.2.length}) (fun s => ⟨[(6, int s.1.1), (5, int s.1.2.1.length), (1, .fn (.func 65) [] [.ptr 1 0]), (0, .osl 0 3 0 l.length)], [(0, some ⟨50, rowC Act.flat (s.1.2.1 ++ s.1.2.2 ++ l.drop s.1.1)⟩), (1, some ⟨3, [int d]⟩)], 4002⟩) (fun s => l.length - s.1.1) id ⟨(i0 + 1, l.take i0, [a0]), hi0, Nat.lt_succ_self _, hk0, by show (l.take i0).length + 1 = i0 + 1; omega, Nat.zero_lt_one⟩ (by rw [hN]; kernel_rfl) ?_ ?_
    · simp only [hl0, hL0]
      simp only [go_sem, ↓reduceIte, hF]
      exact hFb
    · rintro ⟨⟨j, Q, X⟩, g1, g2, g5, g3, g4⟩
      simp only at g1 g2 g3 g4 g5
      by_cases hj : j < l.length
      · have e0 : l[j]? = some l[j] := List.getElem?_eq_getElem hj
        have e2 : IntKind.i64.wrap ((j : Int) + 1) = ((j + 1 : Nat) : Int) := by rw [wrap_id] <;> omega
        have hsn := keepD_snoc d e0
        have hdr : l.drop j = l[j] :: l.drop (j + 1) := List.drop_eq_getElem_cons hj
        rw [g5] at hsn
        generalize l[j] = a at *
        have hL : (Q ++ X ++ l.drop j).length = l.length := by simp; omega
        have hM : (Q ++ X ++ l.drop j)[j]? = some a := by
          rw [List.getElem?_append_right (by simp; omega), hdr]
          simp [show j - (Q.length + X.length) = 0 by omega]
        have e1 := rowK_some hM
        have hln := rowK_len (Q ++ X ++ l.drop j)
        have z1 := rowK_nz (l := Q ++ X ++ l.drop j) (by omega)
        rw [hL] at hln
        have k1 := at1_f d a
        have p1 := rowK_put (Q ++ X ++ l.drop j) Q.length a (by omega)
        have hQ : Q.length < l.length := by omega
        have e3 : IntKind.i64.wrap ((Q.length : Int) + 1) = ((Q.length + 1 : Nat) : Int) := by rw [wrap_id] <;> omega
        have hput : (Q ++ X ++ l.drop j).set Q.length a = Q ++ [a] ++ (X.drop 1 ++ [a]) ++ l.drop (j + 1) := by
          obtain ⟨x, X', rfl⟩ : ∃ x X', X = x :: X' := by cases X with | nil => simp at g4 | cons x X' => exact ⟨x, X', rfl⟩
          rw [hdr, List.append_assoc, List.set_append_right _ _ (Nat.le_refl _), Nat.sub_self]
          simp
        have hskip : Q ++ X ++ l.drop j = Q ++ (X ++ [a]) ++ l.drop (j + 1) := by rw [hdr]; simp
        by_cases hd : a.booked > d
        · rw [decide_eq_true hd] at k1
          rw [if_neg (by omega), List.append_nil] at hsn
          (with_reducible repeat' (first|exact trivial|(apply byE;simp only [go_sem, ↓reduceIte, e1, e2, hln, z1, hj];try rfl)|apply Bg|apply Aa|apply As|apply Au|apply Av|apply Aj|apply At|apply Aw|apply Ab|apply Ac|apply Ad|apply Ae|apply Af|apply Ag|apply Ah|apply Ai|apply Ak|apply Al|((first|apply An|apply Ao);(case hs=>with_unfolding_all rfl))|apply Am|apply Ap|apply Aq|apply Ar|apply Ax|apply Ay|apply Az|apply Ba|apply Bb|apply Bc|apply Bd|apply Be|apply Ca|apply Cb|apply Cc|apply Cd|apply Ce|apply Cf|apply Cg|apply Ch|apply Ci|apply Bf|apply Cj|apply Ck|apply Cl|apply Cm|apply Cn|apply Co|apply Cp|(apply byR;with_unfolding_all rfl)|((first|apply byKt|apply byKs);kernel_rfl)|(apply byL;simp only [econs,List.map_cons,List.map_nil,List.cons_append,List.nil_append,OpS.nm,OpS.reads,OpS.turns,Nat.reduceAdd];try with_unfolding_all rfl)|(apply byG;intro hg;try simp only [hg])|(apply byQ;intro hq;try simp only [hqs] at hq;try (exfalso;omega))|(apply byI;intro K hK)|(apply byH;repeat (first|exact dst_z rfl|apply dst_s))|(apply byN;unfold NapOK;kernel_rfl)|(apply byD;first|(simp;done)|(simp [go_sem];done))|(refine hK _ _ ?_;clear hK;clear K)|omega|contradiction))
          (apply callL' [1] cl65 (k1); (case hp | hl => (simp only [go_sem, ↓reduceIte]; try rfl)); (case hx => (simp [AV.flat0])); (try (case hfz => (first | (simp only [go_sem]; done) | (simp [go_sem, fzo]; done)))))
          (with_reducible repeat' (first|exact trivial|(apply byE;simp only [go_sem, ↓reduceIte, e2];try rfl)|apply Bg|apply Aa|apply As|apply Au|apply Av|apply Aj|apply At|apply Aw|apply Ab|apply Ac|apply Ad|apply Ae|apply Af|apply Ag|apply Ah|apply Ai|apply Ak|apply Al|((first|apply An|apply Ao);(case hs=>with_unfolding_all rfl))|apply Am|apply Ap|apply Aq|apply Ar|apply Ax|apply Ay|apply Az|apply Ba|apply Bb|apply Bc|apply Bd|apply Be|apply Ca|apply Cb|apply Cc|apply Cd|apply Ce|apply Cf|apply Cg|apply Ch|apply Ci|apply Bf|apply Cj|apply Ck|apply Cl|apply Cm|apply Cn|apply Co|apply Cp|(apply byR;with_unfolding_all rfl)|((first|apply byKt|apply byKs);kernel_rfl)|(apply byL;simp only [econs,List.map_cons,List.map_nil,List.cons_append,List.nil_append,OpS.nm,OpS.reads,OpS.turns,Nat.reduceAdd];try with_unfolding_all rfl)|(apply byG;intro hg;try simp only [hg])|(apply byQ;intro hq;try simp only [hqs] at hq;try (exfalso;omega))|(apply byI;intro K hK)|(apply byH;repeat (first|exact dst_z rfl|apply dst_s))|(apply byN;unfold NapOK;kernel_rfl)|(apply byD;first|(simp;done)|(simp [go_sem];done))|(refine hK _ _ ?_;clear hK;clear K)|omega|contradiction))
          refine ⟨⟨(j + 1, Q, X ++ [a]), hj, by omega, hsn, by simp; omega, by simp⟩, id, ?_, by show l.length - (j + 1) < l.length - j; omega⟩
          simp only [hskip]
          simp only [go_sem, ↓reduceIte, hF]
          exact hFb
        · rw [decide_eq_false hd] at k1
          rw [if_pos (by omega)] at hsn
          (with_reducible repeat' (first|exact trivial|(apply byE;simp only [go_sem, ↓reduceIte, e1, e2, hln, z1, hj];try rfl)|apply Bg|apply Aa|apply As|apply Au|apply Av|apply Aj|apply At|apply Aw|apply Ab|apply Ac|apply Ad|apply Ae|apply Af|apply Ag|apply Ah|apply Ai|apply Ak|apply Al|((first|apply An|apply Ao);(case hs=>with_unfolding_all rfl))|apply Am|apply Ap|apply Aq|apply Ar|apply Ax|apply Ay|apply Az|apply Ba|apply Bb|apply Bc|apply Bd|apply Be|apply Ca|apply Cb|apply Cc|apply Cd|apply Ce|apply Cf|apply Cg|apply Ch|apply Ci|apply Bf|apply Cj|apply Ck|apply Cl|apply Cm|apply Cn|apply Co|apply Cp|(apply byR;with_unfolding_all rfl)|((first|apply byKt|apply byKs);kernel_rfl)|(apply byL;simp only [econs,List.map_cons,List.map_nil,List.cons_append,List.nil_append,OpS.nm,OpS.reads,OpS.turns,Nat.reduceAdd];try with_unfolding_all rfl)|(apply byG;intro hg;try simp only [hg])|(apply byQ;intro hq;try simp only [hqs] at hq;try (exfalso;omega))|(apply byI;intro K hK)|(apply byH;repeat (first|exact dst_z rfl|apply dst_s))|(apply byN;unfold NapOK;kernel_rfl)|(apply byD;first|(simp;done)|(simp [go_sem];done))|(refine hK _ _ ?_;clear hK;clear K)|omega|contradiction))
          (apply callL' [1] cl65 (k1); (case hp | hl => (simp only [go_sem, ↓reduceIte]; try rfl)); (case hx => (simp [AV.flat0])); (try (case hfz => (first | (simp only [go_sem]; done) | (simp [go_sem, fzo]; done)))))
          (with_reducible repeat' (first|exact trivial|(apply byE;simp only [go_sem, ↓reduceIte, e2, hln, z1, p1, hQ, e3];try rfl)|apply Bg|apply Aa|apply As|apply Au|apply Av|apply Aj|apply At|apply Aw|apply Ab|apply Ac|apply Ad|apply Ae|apply Af|apply Ag|apply Ah|apply Ai|apply Ak|apply Al|((first|apply An|apply Ao);(case hs=>with_unfolding_all rfl))|apply Am|apply Ap|apply Aq|apply Ar|apply Ax|apply Ay|apply Az|apply Ba|apply Bb|apply Bc|apply Bd|apply Be|apply Ca|apply Cb|apply Cc|apply Cd|apply Ce|apply Cf|apply Cg|apply Ch|apply Ci|apply Bf|apply Cj|apply Ck|apply Cl|apply Cm|apply Cn|apply Co|apply Cp|(apply byR;with_unfolding_all rfl)|((first|apply byKt|apply byKs);kernel_rfl)|(apply byL;simp only [econs,List.map_cons,List.map_nil,List.cons_append,List.nil_append,OpS.nm,OpS.reads,OpS.turns,Nat.reduceAdd];try with_unfolding_all rfl)|(apply byG;intro hg;try simp only [hg])|(apply byQ;intro hq;try simp only [hqs] at hq;try (exfalso;omega))|(apply byI;intro K hK)|(apply byH;repeat (first|exact dst_z rfl|apply dst_s))|(apply byN;unfold NapOK;kernel_rfl)|(apply byD;first|(simp;done)|(simp [go_sem];done))|(refine hK _ _ ?_;clear hK;clear K)|omega|contradiction))
          refine ⟨⟨(j + 1, Q ++ [a], X.drop 1 ++ [a]), hj, by omega, hsn, by simp; omega, by simp⟩, id, ?_, by show l.length - (j + 1) < l.length - j; omega⟩
          simp only [hput, List.length_append, List.length_singleton]
          simp only [go_sem, ↓reduceIte, hF]
          exact hFb
      · obtain rfl : j = l.length := by omega
        rw [List.take_length] at g5
        rw [g5, List.drop_length, List.append_nil]
        have hl3 := rowK_len (Q ++ X)
        rw [List.length_append, g3] at hl3
        (with_reducible repeat' (first|exact trivial|(apply byE;simp only [go_sem, ↓reduceIte, hj];try rfl)|apply Bg|apply Aa|apply As|apply Au|apply Av|apply Aj|apply At|apply Aw|apply Ab|apply Ac|apply Ad|apply Ae|apply Af|apply Ag|apply Ah|apply Ai|apply Ak|apply Al|((first|apply An|apply Ao);(case hs=>with_unfolding_all rfl))|apply Am|apply Ap|apply Aq|apply Ar|apply Ax|apply Ay|apply Az|apply Ba|apply Bb|apply Bc|apply Bd|apply Be|apply Ca|apply Cb|apply Cc|apply Cd|apply Ce|apply Cf|apply Cg|apply Ch|apply Ci|apply Bf|apply Cj|apply Ck|apply Cl|apply Cm|apply Cn|apply Co|apply Cp|(apply byR;with_unfolding_all rfl)|((first|apply byKt|apply byKs);kernel_rfl)|(apply byL;simp only [econs,List.map_cons,List.map_nil,List.cons_append,List.nil_append,OpS.nm,OpS.reads,OpS.turns,Nat.reduceAdd];try with_unfolding_all rfl)|(apply byG;intro hg;try simp only [hg])|(apply byQ;intro hq;try simp only [hqs] at hq;try (exfalso;omega))|(apply byI;intro K hK)|(apply byH;repeat (first|exact dst_z rfl|apply dst_s))|(apply byN;unfold NapOK;kernel_rfl)|(apply byD;first|(simp;done)|(simp [go_sem];done))|(refine hK _ _ ?_;clear hK;clear K)|omega|contradiction))
        · have hzl : (zerosR [AV.v (Value.int IntKind.i64 0), AV.v (Value.int IntKind.i64 0), AV.v (Value.int IntKind.i64 0)] (l.length - Q.length)).length = (l.length - Q.length) * 3 := zeros3_len _
          have hq := rowK_len Q
          have hx := rowK_len X
          refine ⟨?_, ?_⟩
          · rw [rowK_app, List.take_append_of_le_length (by omega), List.take_of_length_le (by omega), List.drop_of_length_le (by rw [List.length_append]; omega), List.append_nil]
          · rw [List.all_append, rowK_nms, zeros3_nms]
            rfl
theorem claimAt_f (f : File) (d : Int) (hl : f.acts.length ≤ 100000) : Fun Try.prog 28 [.agg f.flat, int d] (.agg (f.at d).flat) := by
  obtain ⟨c, l⟩ := f
  simp only at hl
  rcases Nat.eq_zero_or_pos l.length with h0 | h0
  · obtain rfl := List.length_eq_zero_iff.1 h0
    have k := del0_f d [] rfl
    have q : (File.mk c []).at d = ⟨c, []⟩ := rfl
    rw [q]
    have k1 := clone_f [] (by simp)
    refine fun_W mixed Try.func28 rfl (Nat.le_of_ble_eq_true rfl) (by kernel_rfl) fun cx hN hR hF hL => ?_; apply args_k; (case hA => (simp only [go_sem, ↓reduceIte]; rfl))
    (with_reducible repeat' (first|exact trivial|(apply byE;simp only [go_sem, ↓reduceIte];try rfl)|apply Bg|apply Aa|apply As|apply Au|apply Av|apply Aj|apply At|apply Aw|apply Ab|apply Ac|apply Ad|apply Ae|apply Af|apply Ag|apply Ah|apply Ai|apply Ak|apply Al|((first|apply An|apply Ao);(case hs=>with_unfolding_all rfl))|apply Am|apply Ap|apply Aq|apply Ar|apply Ax|apply Ay|apply Az|apply Ba|apply Bb|apply Bc|apply Bd|apply Be|apply Ca|apply Cb|apply Cc|apply Cd|apply Ce|apply Cf|apply Cg|apply Ch|apply Ci|apply Bf|apply Cj|apply Ck|apply Cl|apply Cm|apply Cn|apply Co|apply Cp|(apply byR;with_unfolding_all rfl)|((first|apply byKt|apply byKs);kernel_rfl)|(apply byL;simp only [econs,List.map_cons,List.map_nil,List.cons_append,List.nil_append,OpS.nm,OpS.reads,OpS.turns,Nat.reduceAdd];try with_unfolding_all rfl)|(apply byG;intro hg;try simp only [hg])|(apply byQ;intro hq;try simp only [hqs] at hq;try (exfalso;omega))|(apply byI;intro K hK)|(apply byH;repeat (first|exact dst_z rfl|apply dst_s))|(apply byN;unfold NapOK;kernel_rfl)|(apply byD;first|(simp;done)|(simp [go_sem];done))|(refine hK _ _ ?_;clear hK;clear K)|omega|(apply callX cl63 (k1);(case hl=>with_unfolding_all rfl))|contradiction))
    (apply callB' [8] cl64 (k); (case h1 | h2 | h3 => (simp only [go_sem, ↓reduceIte]; try rfl)); (case hl | hs | hfp | hfr => (simp [go_sem]; done)))
    (with_reducible repeat' (first|exact trivial|(apply byE;simp only [go_sem, ↓reduceIte];try rfl)|apply Bg|apply Aa|apply As|apply Au|apply Av|apply Aj|apply At|apply Aw|apply Ab|apply Ac|apply Ad|apply Ae|apply Af|apply Ag|apply Ah|apply Ai|apply Ak|apply Al|((first|apply An|apply Ao);(case hs=>with_unfolding_all rfl))|apply Am|apply Ap|apply Aq|apply Ar|apply Ax|apply Ay|apply Az|apply Ba|apply Bb|apply Bc|apply Bd|apply Be|apply Ca|apply Cb|apply Cc|apply Cd|apply Ce|apply Cf|apply Cg|apply Ch|apply Ci|apply Bf|apply Cj|apply Ck|apply Cl|apply Cm|apply Cn|apply Co|apply Cp|(apply byR;with_unfolding_all rfl)|((first|apply byKt|apply byKs);kernel_rfl)|(apply byL;simp only [econs,List.map_cons,List.map_nil,List.cons_append,List.nil_append,OpS.nm,OpS.reads,OpS.turns,Nat.reduceAdd];try with_unfolding_all rfl)|(apply byG;intro hg;try simp only [hg])|(apply byQ;intro hq;try simp only [hqs] at hq;try (exfalso;omega))|(apply byI;intro K hK)|(apply byH;repeat (first|exact dst_z rfl|apply dst_s))|(apply byN;unfold NapOK;kernel_rfl)|(apply byD;first|(simp;done)|(simp [go_sem];done))|(refine hK _ _ ?_;clear hK;clear K)|omega|contradiction))
  · have k1 := cloneK_f l hl
    have k2 := del_f d l h0 hl
    refine fun_W mixed Try.func28 rfl (Nat.le_of_ble_eq_true rfl) (by kernel_rfl) fun cx hN hR hF hL => ?_; apply args_k; (case hA => (simp only [go_sem, ↓reduceIte]; rfl))
    (with_reducible repeat' (first|exact trivial|(apply byE;simp only [go_sem, ↓reduceIte];try rfl)|apply Bg|apply Aa|apply As|apply Au|apply Av|apply Aj|apply At|apply Aw|apply Ab|apply Ac|apply Ad|apply Ae|apply Af|apply Ag|apply Ah|apply Ai|apply Ak|apply Al|((first|apply An|apply Ao);(case hs=>with_unfolding_all rfl))|apply Am|apply Ap|apply Aq|apply Ar|apply Ax|apply Ay|apply Az|apply Ba|apply Bb|apply Bc|apply Bd|apply Be|apply Ca|apply Cb|apply Cc|apply Cd|apply Ce|apply Cf|apply Cg|apply Ch|apply Ci|apply Bf|apply Cj|apply Ck|apply Cl|apply Cm|apply Cn|apply Co|apply Cp|(apply byR;with_unfolding_all rfl)|((first|apply byKt|apply byKs);kernel_rfl)|(apply byL;simp only [econs,List.map_cons,List.map_nil,List.cons_append,List.nil_append,OpS.nm,OpS.reads,OpS.turns,Nat.reduceAdd];try with_unfolding_all rfl)|(apply byG;intro hg;try simp only [hg])|(apply byQ;intro hq;try simp only [hqs] at hq;try (exfalso;omega))|(apply byI;intro K hK)|(apply byH;repeat (first|exact dst_z rfl|apply dst_s))|(apply byN;unfold NapOK;kernel_rfl)|(apply byD;first|(simp;done)|(simp [go_sem];done))|(refine hK _ _ ?_;clear hK;clear K)|omega|contradiction))
    (apply callB' [1016] cl63 (k1); (case h1 | h2 | h3 => (simp only [go_sem, ↓reduceIte]; try rfl)); (case hl | hs | hfp | hfr => (simp [go_sem]; done)))
    (with_reducible repeat' (first|exact trivial|(apply byE;simp only [go_sem, ↓reduceIte];try rfl)|apply Bg|apply Aa|apply As|apply Au|apply Av|apply Aj|apply At|apply Aw|apply Ab|apply Ac|apply Ad|apply Ae|apply Af|apply Ag|apply Ah|apply Ai|apply Ak|apply Al|((first|apply An|apply Ao);(case hs=>with_unfolding_all rfl))|apply Am|apply Ap|apply Aq|apply Ar|apply Ax|apply Ay|apply Az|apply Ba|apply Bb|apply Bc|apply Bd|apply Be|apply Ca|apply Cb|apply Cc|apply Cd|apply Ce|apply Cf|apply Cg|apply Ch|apply Ci|apply Bf|apply Cj|apply Ck|apply Cl|apply Cm|apply Cn|apply Co|apply Cp|(apply byR;with_unfolding_all rfl)|((first|apply byKt|apply byKs);kernel_rfl)|(apply byL;simp only [econs,List.map_cons,List.map_nil,List.cons_append,List.nil_append,OpS.nm,OpS.reads,OpS.turns,Nat.reduceAdd];try with_unfolding_all rfl)|(apply byG;intro hg;try simp only [hg])|(apply byQ;intro hq;try simp only [hqs] at hq;try (exfalso;omega))|(apply byI;intro K hK)|(apply byH;repeat (first|exact dst_z rfl|apply dst_s))|(apply byN;unfold NapOK;kernel_rfl)|(apply byD;first|(simp;done)|(simp [go_sem];done))|(refine hK _ _ ?_;clear hK;clear K)|omega|contradiction))
    (apply callB' [1016, 8] cl64 (k2); (case h1 | h2 | h3 => (simp only [go_sem, ↓reduceIte]; try rfl)); (case hl | hs | hfp | hfr => (simp [go_sem]; done)))
    (with_reducible repeat' (first|exact trivial|(apply byE;simp only [go_sem, ↓reduceIte];try rfl)|apply Bg|apply Aa|apply As|apply Au|apply Av|apply Aj|apply At|apply Aw|apply Ab|apply Ac|apply Ad|apply Ae|apply Af|apply Ag|apply Ah|apply Ai|apply Ak|apply Al|((first|apply An|apply Ao);(case hs=>with_unfolding_all rfl))|apply Am|apply Ap|apply Aq|apply Ar|apply Ax|apply Ay|apply Az|apply Ba|apply Bb|apply Bc|apply Bd|apply Be|apply Ca|apply Cb|apply Cc|apply Cd|apply Ce|apply Cf|apply Cg|apply Ch|apply Ci|apply Bf|apply Cj|apply Ck|apply Cl|apply Cm|apply Cn|apply Co|apply Cp|(apply byR;with_unfolding_all rfl)|((first|apply byKt|apply byKs);kernel_rfl)|(apply byL;simp only [econs,List.map_cons,List.map_nil,List.cons_append,List.nil_append,OpS.nm,OpS.reads,OpS.turns,Nat.reduceAdd];try with_unfolding_all rfl)|(apply byG;intro hg;try simp only [hg])|(apply byQ;intro hq;try simp only [hqs] at hq;try (exfalso;omega))|(apply byI;intro K hK)|(apply byH;repeat (first|exact dst_z rfl|apply dst_s))|(apply byN;unfold NapOK;kernel_rfl)|(apply byD;first|(simp;done)|(simp [go_sem];done))|(refine hK _ _ ?_;clear hK;clear K)|omega|contradiction))
    refine ⟨rfl, rfl, rfl, rfl, rfl, rfl, ⟨rfl, rows_len (F := Act.flat) (fun _ => rfl) _⟩, ?_⟩
    rw [List.map_append, rowK_ren, zeros3_ren]
    exact fzo_pre _ _ _ _
@[go_sem] theorem rowF_ren (r : Nat → Nat) (l : List File) : (rowC File.flat l).map (AV.ren r) = rowC File.flat l := rows_ren (fun x r => by simp [File.flat]) r l
@[go_sem] theorem rowF_nms (p : Nat → Bool) (l : List File) : (rowC File.flat l).all (AV.names p) = true := rows_nms (fun x p => by simp [File.flat]) p l
theorem rowF_len (l : List File) : (rowC File.flat l).length = l.length * 7 := rowC_len (F := File.flat) (k := 7) (fun _ => rfl) l
theorem rowF_snoc (l : List File) (f : File) : rowC File.flat (l ++ [f]) = rowC File.flat l ++ [int f.claim.id, int f.claim.policy, int f.claim.peril, int f.claim.loss, int f.claim.booked, int f.claim.event, actsA f.acts] := by simp [rowC, File.flat]
theorem fz_files {box : Boxes} {b n : Nat} {t : TypeId} {L : List File} (d : Nat) (h : bget box b = some ⟨t, rowC File.flat L⟩) (hn : n = L.length) : fz box (d + 1) (.osl b 7 0 n) (filesA L) := by
  rw [fz_osl, h]
  exact ⟨⟨rfl, rfl, by omega, by simp [hn], rows_len (F := File.flat) (fun _ => rfl) L⟩, fzo_rows (F := File.flat) (k := 7) (fun _ => rfl) (fun _ => by simp [File.flat]) L hn⟩
end Go.Proofs.Ytjplhfmakghabaa.V
