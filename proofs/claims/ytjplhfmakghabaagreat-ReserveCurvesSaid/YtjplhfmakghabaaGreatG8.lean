/- clear of a slice of the call's own. Contracts: files as they were known: claim.At. Contracts of chapter 19: Right, check, acts, Few. The order of acts: what tells it; a part of the files, and a beginning of the days. slices.SortStableFunc at steps: swapRange. slices.SortStableFunc at steps: the comparison; insertionSort. -/
import Derived.Test.YtjplhfmakghabaaGreatG6
import Derived.Test.YtjplhfmakghabaaGreatG7
-- CLR


set_option linter.unusedSimpArgs false
set_option linter.unusedVariables false
namespace Go.Proofs.YtjplhfmakghabaaGreat.V
open Go.RowKit
variable {P : Program} {cx : Cx} {env : Env} {box : Boxes} {n0 i : Nat}

theorem y_clear {o : Oper} {ρ : Operand → AV} {t e : TypeId} {y : Operand} {b k off n : Nat} {z : Value} {bx : Bx} (ho : o.op = .call { callee := .builtin .clear, args := #[y], argTypes := #[t] }) (ht : P.underlying t = some (.slice e)) (hz : ∀ w, (zeroValue e).run P w = .ok z w)
    (hzk : z.cells.size = k) (hk0 : 0 < k) (h1 : z.cells.all (·.oneCell') = true) (hy : ρ y = .osl b k off n) (hn0 : 0 < n) (hle : off + n * k ≤ bx.cs.length) : Yields P cx o ρ ⟨[(b, bx)], .v (.tuple #[]), [(b, some ⟨bx.t, splice bx.cs off (zerosOf z k n)⟩)]⟩ := by
  intro ι box used a w hs _ hfp _ hops K Q hK
  have hb : box b = some bx := hfp b bx (by simp)
  have hnk : 0 < n * k := Nat.mul_pos hn0 hk0
  have hne : bx.cs ≠ [] := by intro h; rw [h] at hle; simp at hle; omega
  obtain ⟨g, hg, hgb, hgM, c, hh, hlen, hcs⟩ := hs.ne hb hne
  obtain ⟨cap, hv⟩ : ∃ cap, a.eval y = .slice (some ⟨g, off, none⟩) n cap := by
    have := hops y (mem_ops ho (by simp [Op.operands, Call.operands]))
    rw [hy] at this
    rcases this.osl' with ⟨g', cap, c', t', hv, hg', -⟩ | ⟨h0, -⟩
    · rw [hg] at hg'
      injection hg' with hg'
      subst hg'
      exact ⟨cap, hv⟩
    · omega
  generalize hxs : (Builtin.zeroCells z.cells n).toList = xs
  have hlx : xs.length = n * k := by rw [← hxs]; simp [Builtin.zeroCells, hzk]
  have hone : ∀ x, x ∈ xs → x.oneCell' = true := by
    intro x hx
    obtain ⟨j, hj⟩ := List.mem_iff_getElem?.1 hx
    rw [← hxs] at hj
    rw [Array.getElem?_toList, Builtin.zeroCells] at hj
    obtain ⟨-, -, e3⟩ := zeros_at z.cells (by omega) (n * z.cells.size) j x hj
    exact (Array.all_eq_true_iff_forall_mem.1 h1) x (by simpa using e3)
  have hrun := run_storeCells_at (P := P) g off bx.t xs 0 c w hh (by rw [hlx]; omega) hone
  generalize hc' : (List.take (off + 0) c.toList ++ xs ++ List.drop (off + 0 + xs.length) c.toList).toArray = c' at hrun
  have hrun2 : (execOp a.eval o).run P w = .ok (.value (.tuple #[])) (w.setRow g c') := by
    obtain ⟨m, rfl⟩ : ∃ m, n = m + 1 := ⟨n - 1, by omega⟩
    simp [execOp, ho, resolve, invoke, builtin, Builtin.clear_, run_underlying ht, hv, hz, hxs, hrun]
  unfold Oper.wp
  rw [hrun2, Oper.upon_value]
  refine hK _ ι _ (step_row hs (bx' := ⟨bx.t, splice bx.cs off (zerosOf z k n)⟩) hb hg hh ?_ ?_ rfl ?_) (.d (.v _))
  · rw [← hc']; simp; omega
  · rw [← hc']; simp [splice, zerosOf]; omega
  · intro j v q hjv hjz
    rw [← hc'] at hjv
    have hlz : (zerosOf z k n).length = n * k := by simp [zerosOf]
    simp only [splice, hlz] at hjz
    simp only [Nat.add_zero, hlx, List.getElem?_toArray] at hjv
    have hto : (c.toList.take off).length = off := by simp; omega
    have htb : (bx.cs.take off).length = off := by simp; omega
    rw [List.append_assoc] at hjv hjz
    by_cases h2 : j < off
    · rw [List.getElem?_append_left (by omega)] at hjv hjz
      rw [List.getElem?_take, if_pos h2] at hjv hjz
      exact hcs j v q (by simpa using hjv) hjz
    · rw [List.getElem?_append_right (by omega), hto] at hjv
      rw [List.getElem?_append_right (by omega), htb] at hjz
      by_cases h3 : j - off < n * k
      · rw [List.getElem?_append_left (by omega)] at hjv
        rw [List.getElem?_append_left (by omega)] at hjz
        rw [← hxs] at hjv
        rw [Array.getElem?_toList, Builtin.zeroCells] at hjv
        obtain ⟨e1, e2, e3⟩ := zeros_at z.cells (by omega) (n * z.cells.size) (j - off) v hjv
        rw [zerosOf, List.getElem?_map, List.getElem?_range h3] at hjz
        simp only [Option.map_some, Option.some.injEq] at hjz
        subst hjz
        rw [hzk] at e2
        exact ⟨(Array.all_eq_true_iff_forall_mem.1 h1) v (by simpa using e3), by rw [e2]; exact .d (.v _)⟩
      · rw [List.getElem?_append_right (by omega), hlx, List.getElem?_drop] at hjv
        rw [List.getElem?_append_right (by omega), hlz, List.getElem?_drop] at hjz
        have e : off + n * k + (j - off - n * k) = j := by omega
        rw [e] at hjv hjz
        exact hcs j v q (by simpa using hjv) hjz

def clrR (P : Program) (env : Env) (box : Boxes) (y : Operand) (t : TypeId) : Option (OpS × Prop) :=
  match (tv P t).map TI.k with
  | some (.slice e) => match tv P e with
    | some j => match seval env y with
      | .osl b k off n => match bget box b with
        | some bx => some (⟨[(b, bx)], .v (.tuple #[]), [(b, some ⟨bx.t, splice bx.cs off (zerosOf j.zero j.size n)⟩)]⟩, cndOK True (oeval env y) ∧ j.zero.cells.size = j.size ∧ 0 < j.size ∧ j.zero.cells.all (·.oneCell') = true ∧ k = j.size ∧ 0 < n ∧ off + n * k ≤ bx.cs.length)
        | none => none
      | _ => none
    | none => none
  | _ => none

variable {ops : Array Oper} {draw : Bool} {rest : List Oper} {u : List Nat} {acc : List (List Nat × List Nat)} {K : Env → Boxes → Prop} {dst : Option Tmp} {ty : TypeId} {pos : String} {after : Array Edge} {S : OpS} {c : Prop}
theorem rs_clr {y : Operand} {t : TypeId} (hy : clrR P env box y t = some (S, c)) (hK : regK P cx ops draw n0 rest i env box u acc K dst S) (hc : c) :
    regW P cx ops draw n0 ({ dst := dst, op := .call ⟨.builtin .clear, #[y], #[t]⟩, type := ty, pos := pos, after := after, guard := none } :: rest) i env box u acc K := by
  unfold clrR at hy
  split at hy
  · rename_i e hi
    simp only [Option.map_eq_some_iff] at hi
    obtain ⟨ti, hi, hk⟩ := hi
    split at hy
    · rename_i j hj
      split at hy
      · rename_i b k off n hs
        split at hy
        · rename_i bx hb
          injection hy with hy
          injection hy with h1 h2
          subst h1 h2
          obtain ⟨c0, c1, c2, c3, rfl, c5, c6⟩ := hc
          have h := y_clear (P := P) (cx := cx) (o := { dst := dst, op := .call ⟨.builtin .clear, #[y], #[t]⟩, type := ty, pos := pos, after := after, guard := none }) (ρ := seval env) rfl (tv_slice hi hk) (tv_zero hj) c1 c2 c3 hs c5 c6
          refine ⟨⟨c0, trivial⟩, ?_⟩
          refine ⟨_, fun _ => h, fun b' x hm => ?_, fun b' x hm => ?_, hK⟩
          · simp only [List.mem_singleton, Prod.mk.injEq] at hm
            obtain ⟨rfl, rfl⟩ := hm
            exact hb
          · simp only [List.mem_singleton, Prod.mk.injEq] at hm
            obtain ⟨rfl, -⟩ := hm
            exact .inl ⟨_, List.mem_singleton.2 rfl⟩
        · cases hy
      · cases hy
    · cases hy
  · cases hy
/-- The same, with marks on what is to be shown beside. -/
theorem Bg {y : Operand} {t : TypeId} (hy : ByE (clrR P env box y t = some (S, c))) (hK : regK P cx ops draw n0 rest i env box u acc K dst S) (hc : c) :
    regW P cx ops draw n0 ({ dst := dst, op := .call ⟨.builtin .clear, #[y], #[t]⟩, type := ty, pos := pos, after := after, guard := none } :: rest) i env box u acc K := rs_clr hy hK hc
attribute [go_sem ↓] clrR
end Go.Proofs.YtjplhfmakghabaaGreat.V
namespace Go.Proofs.YtjplhfmakghabaaGreat.V
open Go.RowKit
set_option maxRecDepth 100000
attribute [local go_sem] Option.toList_some Option.toList_none

@[go_sem] theorem rowK_ren (r : Nat → Nat) (l : List Act) : (rowC Act.flat l).map (AV.ren r) = rowC Act.flat l := rowA_ren r l
@[go_sem] theorem rowK_nms (p : Nat → Bool) (l : List Act) : (rowC Act.flat l).all (AV.names p) = true := rowA_nms p l
theorem rowK_len (l : List Act) : (rowC Act.flat l).length = l.length * 3 := rowC_len (F := Act.flat) (k := 3) (fun _ => rfl) l
theorem rowK_app (l m : List Act) : rowC Act.flat (l ++ m) = rowC Act.flat l ++ rowC Act.flat m := by simp [rowC]
theorem rowK_cons (x : Act) (l : List Act) : rowC Act.flat (x :: l) = [int x.booked, int x.kind, int x.amt] ++ rowC Act.flat l := by simp [rowC, Act.flat]
theorem rowK_nz {l : List Act} (h : 0 < l.length) : (rowC Act.flat l = []) ↔ False := by
  rw [iff_false, ← List.length_eq_zero_iff, rowK_len]
  omega
theorem rowK_some {l : List Act} {i : Nat} {x : Act} (h : l[i]? = some x) : ((rowC Act.flat l).drop (i * 3)).take 3 = x.flat := by
  induction l generalizing i with
  | nil => simp at h
  | cons y l ih =>
    rw [rowK_cons]
    rcases i with _ | i
    · simp at h; subst h; simp [Act.flat]
    · have h' : l[i]? = some x := by simpa using h
      have : (i + 1) * 3 = 3 + i * 3 := by omega
      rw [this, ← List.drop_drop]
      simp only [List.cons_append, List.nil_append, List.drop_succ_cons, List.drop_zero]
      exact ih h'
theorem rowK_put (l : List Act) (i : Nat) (x : Act) (h : i < l.length) : List.take (i * 3) (rowC Act.flat l) ++ [int x.booked, int x.kind, int x.amt] ++ List.drop (i * 3 + 3) (rowC Act.flat l) = rowC Act.flat (l.set i x) := by
  induction l generalizing i with
  | nil => simp at h
  | cons y l ih =>
    rw [rowK_cons]
    rcases i with _ | i
    · simp [rowK_cons]
    · have h' : i < l.length := by simpa using h
      have := ih i h'
      rw [List.set_cons_succ, rowK_cons, ← this, show (i + 1) * 3 = i * 3 + 3 by omega, show i * 3 + 3 + 3 = (i * 3 + 3) + 3 by omega]
      simp
@[go_sem] theorem le3 (j n : Nat) : (j * 3 + 3 ≤ n * 3) = (j < n) := propext ⟨fun h => by omega, fun h => by omega⟩

/-! ### What was known -/
def keepD (d : Int) (l : List Act) : List Act := l.filter fun a => decide (a.booked ≤ d)
def fstD (d : Int) : Nat → List Act → Int
  | _, [] => -1
  | i, a :: l => if d < a.booked then (i : Int) else fstD d (i + 1) l
theorem fstD_is (d : Int) : ∀ (l : List Act) (i : Nat), (fstD d i l = -1 ∧ keepD d l = l) ∨ ∃ k a, l[k]? = some a ∧ fstD d i l = ((i + k : Nat) : Int) ∧ d < a.booked ∧ keepD d (l.take k) = l.take k
  | [], _ => .inl ⟨rfl, rfl⟩
  | a :: l, i => by
    rw [fstD]
    by_cases h : d < a.booked
    · rw [if_pos h]
      exact .inr ⟨0, a, rfl, rfl, h, rfl⟩
    · rw [if_neg h]
      have hc : ∀ m, keepD d (a :: m) = a :: keepD d m := fun m => List.filter_cons_of_pos (by simp; omega)
      rcases fstD_is d l (i + 1) with ⟨h1, h2⟩ | ⟨k, b, h1, h2, h3, h4⟩
      · exact .inl ⟨h1, by rw [hc, h2]⟩
      · exact .inr ⟨k + 1, b, by simpa using h1, by rw [h2]; congr 1; omega, h3, by rw [List.take_succ_cons, hc, h4]⟩
theorem keepD_snoc (d : Int) {l : List Act} {j : Nat} {a : Act} (h : l[j]? = some a) : keepD d (l.take (j + 1)) = keepD d (l.take j) ++ if a.booked ≤ d then [a] else [] := by
  rw [List.take_add_one, h, keepD, List.filter_append]
  by_cases hb : a.booked ≤ d <;> simp [keepD, hb]
theorem keepD_le (d : Int) (l : List Act) : (keepD d l).length ≤ l.length := List.length_filter_le _ _
def File.at (f : File) (d : Int) : File := ⟨f.claim, keepD d f.acts⟩

theorem at1_f (d : Int) (a : Act) : Fun Tryz.prog 33 [.agg a.flat, .pp [int d]] (bool (decide (a.booked > d))) := by
  refine fun_W mixed Tryz.func33 rfl (Nat.le_of_ble_eq_true rfl) (by kernel_rfl) fun cx hN hR hF hL => ?_; apply args_k; (case hA => (simp only [go_sem, ↓reduceIte]; rfl))
  (with_reducible repeat' (first|exact trivial|(apply byE;simp only [go_sem, ↓reduceIte];try rfl)|apply Bg|apply Aa|apply As|apply Au|apply Av|apply Aj|apply At|apply Aw|apply Ab|apply Ac|apply Ad|apply Ae|apply Af|apply Ag|apply Ah|apply Ai|apply Ak|apply Al|((first|apply An|apply Ao);(case hs=>with_unfolding_all rfl))|apply Am|apply Ap|apply Aq|apply Ar|apply Ax|apply Ay|apply Az|apply Ba|apply Bb|apply Bc|apply Bd|apply Be|apply Ca|apply Cb|apply Cc|apply Cd|apply Ce|apply Cf|apply Cg|apply Ch|apply Ci|apply Bf|apply Cj|apply Ck|apply Cl|apply Cm|apply Cn|apply Co|apply Cp|(apply byR;with_unfolding_all rfl)|((first|apply byKt|apply byKs);kernel_rfl)|(apply byL;simp only [econs,List.map_cons,List.map_nil,List.cons_append,List.nil_append,OpS.nm,OpS.reads,OpS.turns,Nat.reduceAdd];try with_unfolding_all rfl)|(apply byG;intro hg;try simp only [hg])|(apply byQ;intro hq;try simp only [hqs] at hq;try (exfalso;omega))|(apply byI;intro K hK)|(apply byH;repeat (first|exact dst_z rfl|apply dst_s))|(apply byN;unfold NapOK;kernel_rfl)|(apply byD;first|(simp;done)|(simp [go_sem];done))|(refine hK _ _ ?_;clear hK;clear K)|omega|contradiction))
theorem idx_f (d : Int) (l : List Act) : Fun Tryz.prog 61 [actsA l, .fn (.func 33) [] [.pp [int d]]] (int (fstD d 0 l)) := by
  refine fun_W mixed Tryz.func61 rfl (Nat.le_of_ble_eq_true rfl) (by kernel_rfl) fun cx hN hR hF hL => ?_; apply args_k; (case hA => (simp only [go_sem, ↓reduceIte]; rfl))
  have hl : l.length ≤ 9223372036854775807 := by
    simp [maxLen] at hL
    omega
  generalize hr : fstD d 0 l = r
  (with_reducible repeat' (first|exact trivial|(apply byE;simp only [go_sem, ↓reduceIte];try rfl)|apply Bg|apply Aa|apply As|apply Au|apply Av|apply Aj|apply At|apply Aw|apply Ab|apply Ac|apply Ad|apply Ae|apply Af|apply Ag|apply Ah|apply Ai|apply Ak|apply Al|((first|apply An|apply Ao);(case hs=>with_unfolding_all rfl))|apply Am|apply Ap|apply Aq|apply Ar|apply Ax|apply Ay|apply Az|apply Ba|apply Bb|apply Bc|apply Bd|apply Be|apply Ca|apply Cb|apply Cc|apply Cd|apply Ce|apply Cf|apply Cg|apply Ch|apply Ci|apply Bf|apply Cj|apply Ck|apply Cl|apply Cm|apply Cn|apply Co|apply Cp|(apply byR;with_unfolding_all rfl)|((first|apply byKt|apply byKs);kernel_rfl)|(apply byL;simp only [econs,List.map_cons,List.map_nil,List.cons_append,List.nil_append,OpS.nm,OpS.reads,OpS.turns,Nat.reduceAdd];try with_unfolding_all rfl)|(apply byG;intro hg;try simp only [hg])|(apply byQ;intro hq;try simp only [hqs] at hq;try (exfalso;omega))|(apply byI;intro K hK)|(apply byH;repeat (first|exact dst_z rfl|apply dst_s))|(apply byN;unfold NapOK;kernel_rfl)|(apply byD;first|(simp;done)|(simp [go_sem];done))|(refine hK _ _ ?_;clear hK;clear K)|omega|contradiction))
  refine loopW mixed (σ := {i : Nat // i ≤ l.length ∧ fstD d i (l.drop i) = r}) (fun s => ⟨[(8, int s.1), (7, int l.length), (1, .fn (.func 33) [] [.pp [int d]]), (0, actsA l)], [], 3000⟩) (fun s => l.length - s.1) id ⟨0, by omega, hr⟩ (by rw [hN]; kernel_rfl) ?_ ?_
  · simp only [go_sem, ↓reduceIte, hF]
    rfl
  · rintro ⟨i, h1, h2⟩
    by_cases hi : i < l.length
    · have e0 : l[i]? = some l[i] := List.getElem?_eq_getElem hi
      have e1 : (l.map Act.flat)[i]? = some l[i].flat := by rw [List.getElem?_map, e0]; rfl
      have e2 : IntKind.i64.wrap ((i : Int) + 1) = ((i + 1 : Nat) : Int) := by rw [wrap_id] <;> omega
      have hk1 : i < (l.map Act.flat).length := by simpa using hi
      have h3 : fstD d i (l.drop i) = if d < l[i].booked then (i : Int) else fstD d (i + 1) (l.drop (i + 1)) := by rw [List.drop_eq_getElem_cons hi, fstD]
      generalize l[i] = a at *
      by_cases hd : d < a.booked
      · have k := at1_f d a
        rw [decide_eq_true hd] at k
        rw [if_pos hd] at h3
        obtain rfl : (i : Int) = r := h3.symm.trans h2
        (with_reducible repeat' (first|exact trivial|(apply byE;simp only [go_sem, ↓reduceIte, e1, e2, hk1];try rfl)|apply Bg|apply Aa|apply As|apply Au|apply Av|apply Aj|apply At|apply Aw|apply Ab|apply Ac|apply Ad|apply Ae|apply Af|apply Ag|apply Ah|apply Ai|apply Ak|apply Al|((first|apply An|apply Ao);(case hs=>with_unfolding_all rfl))|apply Am|apply Ap|apply Aq|apply Ar|apply Ax|apply Ay|apply Az|apply Ba|apply Bb|apply Bc|apply Bd|apply Be|apply Ca|apply Cb|apply Cc|apply Cd|apply Ce|apply Cf|apply Cg|apply Ch|apply Ci|apply Bf|apply Cj|apply Ck|apply Cl|apply Cm|apply Cn|apply Co|apply Cp|(apply byR;with_unfolding_all rfl)|((first|apply byKt|apply byKs);kernel_rfl)|(apply byL;simp only [econs,List.map_cons,List.map_nil,List.cons_append,List.nil_append,OpS.nm,OpS.reads,OpS.turns,Nat.reduceAdd];try with_unfolding_all rfl)|(apply byG;intro hg;try simp only [hg])|(apply byQ;intro hq;try simp only [hqs] at hq;try (exfalso;omega))|(apply byI;intro K hK)|(apply byH;repeat (first|exact dst_z rfl|apply dst_s))|(apply byN;unfold NapOK;kernel_rfl)|(apply byD;first|(simp;done)|(simp [go_sem];done))|(refine hK _ _ ?_;clear hK;clear K)|omega|(apply callX cl33 (k);(case hl=>with_unfolding_all rfl))|contradiction))
      · have k := at1_f d a
        rw [decide_eq_false hd] at k
        rw [if_neg hd] at h3
        (with_reducible repeat' (first|exact trivial|(apply byE;simp only [go_sem, ↓reduceIte, e1, e2, hk1];try rfl)|apply Bg|apply Aa|apply As|apply Au|apply Av|apply Aj|apply At|apply Aw|apply Ab|apply Ac|apply Ad|apply Ae|apply Af|apply Ag|apply Ah|apply Ai|apply Ak|apply Al|((first|apply An|apply Ao);(case hs=>with_unfolding_all rfl))|apply Am|apply Ap|apply Aq|apply Ar|apply Ax|apply Ay|apply Az|apply Ba|apply Bb|apply Bc|apply Bd|apply Be|apply Ca|apply Cb|apply Cc|apply Cd|apply Ce|apply Cf|apply Cg|apply Ch|apply Ci|apply Bf|apply Cj|apply Ck|apply Cl|apply Cm|apply Cn|apply Co|apply Cp|(apply byR;with_unfolding_all rfl)|((first|apply byKt|apply byKs);kernel_rfl)|(apply byL;simp only [econs,List.map_cons,List.map_nil,List.cons_append,List.nil_append,OpS.nm,OpS.reads,OpS.turns,Nat.reduceAdd];try with_unfolding_all rfl)|(apply byG;intro hg;try simp only [hg])|(apply byQ;intro hq;try simp only [hqs] at hq;try (exfalso;omega))|(apply byI;intro K hK)|(apply byH;repeat (first|exact dst_z rfl|apply dst_s))|(apply byN;unfold NapOK;kernel_rfl)|(apply byD;first|(simp;done)|(simp [go_sem];done))|(refine hK _ _ ?_;clear hK;clear K)|omega|(apply callX cl33 (k);(case hl=>with_unfolding_all rfl))|contradiction))
        refine ⟨⟨i + 1, hi, h3.symm.trans h2⟩, id, ?_, by show l.length - (i + 1) < l.length - i; omega⟩
        simp only [go_sem, ↓reduceIte, hF]
    · obtain rfl : i = l.length := by omega
      obtain rfl : -1 = r := by rw [← h2, List.drop_length]; rfl
      (with_reducible repeat' (first|exact trivial|(apply byE;simp only [go_sem, ↓reduceIte, Int.reduceNeg];try rfl)|apply Bg|apply Aa|apply As|apply Au|apply Av|apply Aj|apply At|apply Aw|apply Ab|apply Ac|apply Ad|apply Ae|apply Af|apply Ag|apply Ah|apply Ai|apply Ak|apply Al|((first|apply An|apply Ao);(case hs=>with_unfolding_all rfl))|apply Am|apply Ap|apply Aq|apply Ar|apply Ax|apply Ay|apply Az|apply Ba|apply Bb|apply Bc|apply Bd|apply Be|apply Ca|apply Cb|apply Cc|apply Cd|apply Ce|apply Cf|apply Cg|apply Ch|apply Ci|apply Bf|apply Cj|apply Ck|apply Cl|apply Cm|apply Cn|apply Co|apply Cp|(apply byR;with_unfolding_all rfl)|((first|apply byKt|apply byKs);kernel_rfl)|(apply byL;simp only [econs,List.map_cons,List.map_nil,List.cons_append,List.nil_append,OpS.nm,OpS.reads,OpS.turns,Nat.reduceAdd];try with_unfolding_all rfl)|(apply byG;intro hg;try simp only [hg])|(apply byQ;intro hq;try simp only [hqs] at hq;try (exfalso;omega))|(apply byI;intro K hK)|(apply byH;repeat (first|exact dst_z rfl|apply dst_s))|(apply byN;unfold NapOK;kernel_rfl)|(apply byD;first|(simp;done)|(simp [go_sem];done))|(refine hK _ _ ?_;clear hK;clear K)|omega|contradiction))
theorem fz_acts {box : Boxes} {b n : Nat} {t : TypeId} {L : List Act} (d : Nat) (h : bget box b = some ⟨t, rowC Act.flat L⟩) (hn : n = L.length) : fz box (d + 1) (.osl b 3 0 n) (actsA L) := by
  rw [fz_osl, h]
  exact ⟨⟨rfl, rfl, by omega, by simp [hn], rows_len (F := Act.flat) (fun _ => rfl) L⟩, fzo_rows (F := Act.flat) (k := 3) (fun _ => rfl) (fun _ => by simp [Act.flat]) L hn⟩
theorem zeros3_len : ∀ n, (zerosR [int 0, int 0, int 0] n).length = n * 3
  | 0 => rfl
  | n + 1 => by rw [zerosR, List.length_append, zeros3_len n]; simp; omega
theorem zeros3_nms (p : Nat → Bool) : ∀ n, (zerosR [int 0, int 0, int 0] n).all (AV.names p) = true
  | 0 => rfl
  | n + 1 => by rw [zerosR, List.all_append, zeros3_nms p n]; simp [AV.names]
@[go_sem] theorem zeros3_nm (p : Nat → Bool) (n : Nat) : (∀ x, x ∈ zerosR [int 0, int 0, int 0] n → AV.names p x = true) ↔ True := by
  simp only [iff_true]
  exact List.all_eq_true.1 (zeros3_nms p n)
@[go_sem] theorem zeros3_ren (r : Nat → Nat) : ∀ n, (zerosR [int 0, int 0, int 0] n).map (AV.ren r) = zerosR [int 0, int 0, int 0] n
  | 0 => rfl
  | n + 1 => by rw [zerosR, List.map_append, zeros3_ren r n]; simp [AV.ren]
theorem cloneK_f (l : List Act) (hl : l.length ≤ 100000) : FunB Tryz.prog 32 [] [actsA l] (.osl 0 3 0 l.length) [(0, some ⟨38, rowC Act.flat l⟩)] := cloneB_f l hl
theorem fzo_pre (t : TypeId) (R : AV → AV → Prop) (L : List Act) (Z : List AV) : fzo (some ⟨t, rowC Act.flat L ++ Z⟩) R 3 0 L.length (L.map Act.flat) := by
  have h := rowK_len L
  refine ⟨by simp only [List.length_append]; omega, .inl ⟨?_, ?_⟩⟩
  · rw [List.drop_zero, ← h, List.take_left]
    rfl
  · intro r hr y hy
    obtain ⟨a, -, rfl⟩ := List.mem_map.1 hr
    simp only [Act.flat, List.mem_cons, List.not_mem_nil, or_false] at hy
    rcases hy with rfl | rfl | rfl <;> simp
/-- Nothing is left out. -/
theorem del0_f (d : Int) (l : List Act) (h : fstD d 0 l = -1) : FunB Tryz.prog 31 [(0, ⟨3, [int d]⟩)] [actsA l, .fn (.func 33) [] [.ptr 0 0]] (actsA l) [] := by
  have k := idx_f d l
  rw [h] at k
  refine fun_WB 1 mixed Tryz.func31 rfl (Nat.le_of_ble_eq_true rfl) (by kernel_rfl) (by simp [go_sem]) fun cx hN hR hF hL => ?_; apply args_kb; (case hA => (simp only [go_sem, ↓reduceIte]; rfl)); (case hB => (simp only [go_sem, ↓reduceIte]; rfl))
  (with_reducible repeat' (first|exact trivial|(apply byE;simp only [go_sem, ↓reduceIte];try rfl)|apply Bg|apply Aa|apply As|apply Au|apply Av|apply Aj|apply At|apply Aw|apply Ab|apply Ac|apply Ad|apply Ae|apply Af|apply Ag|apply Ah|apply Ai|apply Ak|apply Al|((first|apply An|apply Ao);(case hs=>with_unfolding_all rfl))|apply Am|apply Ap|apply Aq|apply Ar|apply Ax|apply Ay|apply Az|apply Ba|apply Bb|apply Bc|apply Bd|apply Be|apply Ca|apply Cb|apply Cc|apply Cd|apply Ce|apply Cf|apply Cg|apply Ch|apply Ci|apply Bf|apply Cj|apply Ck|apply Cl|apply Cm|apply Cn|apply Co|apply Cp|(apply byR;with_unfolding_all rfl)|((first|apply byKt|apply byKs);kernel_rfl)|(apply byL;simp only [econs,List.map_cons,List.map_nil,List.cons_append,List.nil_append,OpS.nm,OpS.reads,OpS.turns,Nat.reduceAdd];try with_unfolding_all rfl)|(apply byG;intro hg;try simp only [hg])|(apply byQ;intro hq;try simp only [hqs] at hq;try (exfalso;omega))|(apply byI;intro K hK)|(apply byH;repeat (first|exact dst_z rfl|apply dst_s))|(apply byN;unfold NapOK;kernel_rfl)|(apply byD;first|(simp;done)|(simp [go_sem];done))|(refine hK _ _ ?_;clear hK;clear K)|omega|contradiction))
  (apply callL' [0] cl61 (k); (case hp | hl => (simp only [go_sem, ↓reduceIte]; try rfl)); (case hx => (simp [AV.flat0])); (try (case hfz => (first | (simp only [go_sem]; done) | (simp [go_sem, fzo]; done)))))
  (with_reducible repeat' (first|exact trivial|(apply byE;simp only [go_sem, ↓reduceIte];try rfl)|apply Bg|apply Aa|apply As|apply Au|apply Av|apply Aj|apply At|apply Aw|apply Ab|apply Ac|apply Ad|apply Ae|apply Af|apply Ag|apply Ah|apply Ai|apply Ak|apply Al|((first|apply An|apply Ao);(case hs=>with_unfolding_all rfl))|apply Am|apply Ap|apply Aq|apply Ar|apply Ax|apply Ay|apply Az|apply Ba|apply Bb|apply Bc|apply Bd|apply Be|apply Ca|apply Cb|apply Cc|apply Cd|apply Ce|apply Cf|apply Cg|apply Ch|apply Ci|apply Bf|apply Cj|apply Ck|apply Cl|apply Cm|apply Cn|apply Co|apply Cp|(apply byR;with_unfolding_all rfl)|((first|apply byKt|apply byKs);kernel_rfl)|(apply byL;simp only [econs,List.map_cons,List.map_nil,List.cons_append,List.nil_append,OpS.nm,OpS.reads,OpS.turns,Nat.reduceAdd];try with_unfolding_all rfl)|(apply byG;intro hg;try simp only [hg])|(apply byQ;intro hq;try simp only [hqs] at hq;try (exfalso;omega))|(apply byI;intro K hK)|(apply byH;repeat (first|exact dst_z rfl|apply dst_s))|(apply byN;unfold NapOK;kernel_rfl)|(apply byD;first|(simp;done)|(simp [go_sem];done))|(refine hK _ _ ?_;clear hK;clear K)|omega|contradiction))
set_option maxHeartbeats 4000000 in
theorem del_f (d : Int) (l : List Act) (h0 : 0 < l.length) (hl : l.length ≤ 100000) : FunB Tryz.prog 31 [(0, ⟨38, rowC Act.flat l⟩), (1, ⟨3, [int d]⟩)] [.osl 0 3 0 l.length, .fn (.func 33) [] [.ptr 1 0]] (.osl 0 3 0 (keepD d l).length)
    [(0, some ⟨38, rowC Act.flat (keepD d l) ++ zerosR [int 0, int 0, int 0] (l.length - (keepD d l).length)⟩)] := by
  have k := idx_f d l
  have kl := keepD_le d l
  have hz := rowK_nz h0
  rcases fstD_is d l 0 with ⟨h1, h2⟩ | ⟨i0, a0, h1, h2, h3, h4⟩
  · rw [h1] at k
    rw [h2, Nat.sub_self, zerosR, List.append_nil]
    refine fun_WB 2 mixed Tryz.func31 rfl (Nat.le_of_ble_eq_true rfl) (by kernel_rfl) (by simp [go_sem, hz]) fun cx hN hR hF hL => ?_; apply args_kb; (case hA => (simp only [go_sem, ↓reduceIte]; rfl)); (case hB => (simp only [go_sem, ↓reduceIte]; rfl))
    (with_reducible repeat' (first|exact trivial|(apply byE;simp only [go_sem, ↓reduceIte];try rfl)|apply Bg|apply Aa|apply As|apply Au|apply Av|apply Aj|apply At|apply Aw|apply Ab|apply Ac|apply Ad|apply Ae|apply Af|apply Ag|apply Ah|apply Ai|apply Ak|apply Al|((first|apply An|apply Ao);(case hs=>with_unfolding_all rfl))|apply Am|apply Ap|apply Aq|apply Ar|apply Ax|apply Ay|apply Az|apply Ba|apply Bb|apply Bc|apply Bd|apply Be|apply Ca|apply Cb|apply Cc|apply Cd|apply Ce|apply Cf|apply Cg|apply Ch|apply Ci|apply Bf|apply Cj|apply Ck|apply Cl|apply Cm|apply Cn|apply Co|apply Cp|(apply byR;with_unfolding_all rfl)|((first|apply byKt|apply byKs);kernel_rfl)|(apply byL;simp only [econs,List.map_cons,List.map_nil,List.cons_append,List.nil_append,OpS.nm,OpS.reads,OpS.turns,Nat.reduceAdd];try with_unfolding_all rfl)|(apply byG;intro hg;try simp only [hg])|(apply byQ;intro hq;try simp only [hqs] at hq;try (exfalso;omega))|(apply byI;intro K hK)|(apply byH;repeat (first|exact dst_z rfl|apply dst_s))|(apply byN;unfold NapOK;kernel_rfl)|(apply byD;first|(simp;done)|(simp [go_sem];done))|(refine hK _ _ ?_;clear hK;clear K)|omega|contradiction))
    (apply callL' [0, 1] cl61 (k); (case hp | hl => (simp only [go_sem, ↓reduceIte]; try rfl)); (case hx => (simp [AV.flat0])); (try (case hfz => (first | (simp only [go_sem]; done) | (simp [go_sem, fzo]; done)))))
    · refine ⟨fz_acts 5 rfl rfl, ?_, trivial⟩
      simp [go_sem, fzp]
    (with_reducible repeat' (first|exact trivial|(apply byE;simp only [go_sem, ↓reduceIte];try rfl)|apply Bg|apply Aa|apply As|apply Au|apply Av|apply Aj|apply At|apply Aw|apply Ab|apply Ac|apply Ad|apply Ae|apply Af|apply Ag|apply Ah|apply Ai|apply Ak|apply Al|((first|apply An|apply Ao);(case hs=>with_unfolding_all rfl))|apply Am|apply Ap|apply Aq|apply Ar|apply Ax|apply Ay|apply Az|apply Ba|apply Bb|apply Bc|apply Bd|apply Be|apply Ca|apply Cb|apply Cc|apply Cd|apply Ce|apply Cf|apply Cg|apply Ch|apply Ci|apply Bf|apply Cj|apply Ck|apply Cl|apply Cm|apply Cn|apply Co|apply Cp|(apply byR;with_unfolding_all rfl)|((first|apply byKt|apply byKs);kernel_rfl)|(apply byL;simp only [econs,List.map_cons,List.map_nil,List.cons_append,List.nil_append,OpS.nm,OpS.reads,OpS.turns,Nat.reduceAdd];try with_unfolding_all rfl)|(apply byG;intro hg;try simp only [hg])|(apply byQ;intro hq;try simp only [hqs] at hq;try (exfalso;omega))|(apply byI;intro K hK)|(apply byH;repeat (first|exact dst_z rfl|apply dst_s))|(apply byN;unfold NapOK;kernel_rfl)|(apply byD;first|(simp;done)|(simp [go_sem];done))|(refine hK _ _ ?_;clear hK;clear K)|omega|contradiction))
  · rw [h2, Nat.zero_add] at k
    have hi0 := (List.getElem?_eq_some_iff.1 h1).1
    have w0 : IntKind.i64.wrap ((i0 : Int) + 1) = ((i0 + 1 : Nat) : Int) := by rw [wrap_id] <;> omega
    have hm1 : ((i0 : Int) = -1) = False := eq_false (by omega)
    have hk0 : keepD d (l.take (i0 + 1)) = l.take i0 := by rw [keepD_snoc d h1, h4, if_neg (by omega), List.append_nil]
    have hl0 : (l.take i0).length = i0 := by rw [List.length_take, Nat.min_eq_left (by omega)]
    have hL0 : l.take i0 ++ [a0] ++ l.drop (i0 + 1) = l := by
      have : l.take (i0 + 1) = l.take i0 ++ [a0] := by rw [List.take_add_one, h1]; rfl
      rw [← this, List.take_append_drop]
    refine fun_WB 2 mixed Tryz.func31 rfl (Nat.le_of_ble_eq_true rfl) (by kernel_rfl) (by simp [go_sem, hz]) fun cx hN hR hF hL => ?_; apply args_kb; (case hA => (simp only [go_sem, ↓reduceIte]; rfl)); (case hB => (simp only [go_sem, ↓reduceIte]; rfl))
    (with_reducible repeat' (first|exact trivial|(apply byE;simp only [go_sem, ↓reduceIte];try rfl)|apply Bg|apply Aa|apply As|apply Au|apply Av|apply Aj|apply At|apply Aw|apply Ab|apply Ac|apply Ad|apply Ae|apply Af|apply Ag|apply Ah|apply Ai|apply Ak|apply Al|((first|apply An|apply Ao);(case hs=>with_unfolding_all rfl))|apply Am|apply Ap|apply Aq|apply Ar|apply Ax|apply Ay|apply Az|apply Ba|apply Bb|apply Bc|apply Bd|apply Be|apply Ca|apply Cb|apply Cc|apply Cd|apply Ce|apply Cf|apply Cg|apply Ch|apply Ci|apply Bf|apply Cj|apply Ck|apply Cl|apply Cm|apply Cn|apply Co|apply Cp|(apply byR;with_unfolding_all rfl)|((first|apply byKt|apply byKs);kernel_rfl)|(apply byL;simp only [econs,List.map_cons,List.map_nil,List.cons_append,List.nil_append,OpS.nm,OpS.reads,OpS.turns,Nat.reduceAdd];try with_unfolding_all rfl)|(apply byG;intro hg;try simp only [hg])|(apply byQ;intro hq;try simp only [hqs] at hq;try (exfalso;omega))|(apply byI;intro K hK)|(apply byH;repeat (first|exact dst_z rfl|apply dst_s))|(apply byN;unfold NapOK;kernel_rfl)|(apply byD;first|(simp;done)|(simp [go_sem];done))|(refine hK _ _ ?_;clear hK;clear K)|omega|contradiction))
    (apply callL' [0, 1] cl61 (k); (case hp | hl => (simp only [go_sem, ↓reduceIte]; try rfl)); (case hx => (simp [AV.flat0])); (try (case hfz => (first | (simp only [go_sem]; done) | (simp [go_sem, fzo]; done)))))
    · refine ⟨fz_acts 5 rfl rfl, ?_, trivial⟩
      simp [go_sem, fzp]
    (with_reducible repeat' (first|exact trivial|(apply byE;simp only [go_sem, ↓reduceIte, w0, hm1, decide_eq_false (of_eq_false hm1)];try rfl)|apply Bg|apply Aa|apply As|apply Au|apply Av|apply Aj|apply At|apply Aw|apply Ab|apply Ac|apply Ad|apply Ae|apply Af|apply Ag|apply Ah|apply Ai|apply Ak|apply Al|((first|apply An|apply Ao);(case hs=>with_unfolding_all rfl))|apply Am|apply Ap|apply Aq|apply Ar|apply Ax|apply Ay|apply Az|apply Ba|apply Bb|apply Bc|apply Bd|apply Be|apply Ca|apply Cb|apply Cc|apply Cd|apply Ce|apply Cf|apply Cg|apply Ch|apply Ci|apply Bf|apply Cj|apply Ck|apply Cl|apply Cm|apply Cn|apply Co|apply Cp|(apply byR;with_unfolding_all rfl)|((first|apply byKt|apply byKs);kernel_rfl)|(apply byL;simp only [econs,List.map_cons,List.map_nil,List.cons_append,List.nil_append,OpS.nm,OpS.reads,OpS.turns,Nat.reduceAdd];try with_unfolding_all rfl)|(apply byG;intro hg;try simp only [hg])|(apply byQ;intro hq;try simp only [hqs] at hq;try (exfalso;omega))|(apply byI;intro K hK)|(apply byH;repeat (first|exact dst_z rfl|apply dst_s))|(apply byN;unfold NapOK;kernel_rfl)|(apply byD;first|(simp;done)|(simp [go_sem];done))|(refine hK _ _ ?_;clear hK;clear K)|omega|contradiction))
    have hFb : ∀ b g, cx.F b = some g → b < 4002 := fun b g h => by
      have := hF b g h
      simp [inl] at this
      omega
    refine loopW mixed (σ := {s : Nat × List Act × List Act // s.1 ≤ l.length ∧ i0 < s.1 ∧ keepD d (l.take s.1) = s.2.1 ∧ s.2.1.length + s.2.2.length = s.1 ∧ 0 < s.2.2.length}) (fun s => ⟨[(6, int s.1.1), (5, int s.1.2.1.length), (1, .fn (.func 33) [] [.ptr 1 0]), (0, .osl 0 3 0 l.length)], [(0, some ⟨38, rowC Act.flat (s.1.2.1 ++ s.1.2.2 ++ l.drop s.1.1)⟩), (1, some ⟨3, [int d]⟩)], 4002⟩) (fun s => l.length - s.1.1) id ⟨(i0 + 1, l.take i0, [a0]), hi0, Nat.lt_succ_self _, hk0, by show (l.take i0).length + 1 = i0 + 1; omega, Nat.zero_lt_one⟩ (by rw [hN]; kernel_rfl) ?_ ?_
    · simp only [hl0, hL0]
      simp only [go_sem, ↓reduceIte, hF]
      exact hFb
    · rintro ⟨⟨j, Q, X⟩, g1, g2, g5, g3, g4⟩
      simp only at g1 g2 g3 g4 g5
      by_cases hj : j < l.length
      · have e0 : l[j]? = some l[j] := List.getElem?_eq_getElem hj
        have e2 : IntKind.i64.wrap ((j : Int) + 1) = ((j + 1 : Nat) : Int) := by rw [wrap_id] <;> omega
        have hsn := keepD_snoc d e0
        have hdr : l.drop j = l[j] :: l.drop (j + 1) := List.drop_eq_getElem_cons hj
        rw [g5] at hsn
        generalize l[j] = a at *
        have hL : (Q ++ X ++ l.drop j).length = l.length := by simp; omega
        have hM : (Q ++ X ++ l.drop j)[j]? = some a := by
          rw [List.getElem?_append_right (by simp; omega), hdr]
          simp [show j - (Q.length + X.length) = 0 by omega]
        have e1 := rowK_some hM
        have hln := rowK_len (Q ++ X ++ l.drop j)
        have z1 := rowK_nz (l := Q ++ X ++ l.drop j) (by omega)
        rw [hL] at hln
        have k1 := at1_f d a
        have p1 := rowK_put (Q ++ X ++ l.drop j) Q.length a (by omega)
        have hQ : Q.length < l.length := by omega
        have e3 : IntKind.i64.wrap ((Q.length : Int) + 1) = ((Q.length + 1 : Nat) : Int) := by rw [wrap_id] <;> omega
        have hput : (Q ++ X ++ l.drop j).set Q.length a = Q ++ [a] ++ (X.drop 1 ++ [a]) ++ l.drop (j + 1) := by
          obtain ⟨x, X', rfl⟩ : ∃ x X', X = x :: X' := by cases X with | nil => simp at g4 | cons x X' => exact ⟨x, X', rfl⟩
          rw [hdr, List.append_assoc, List.set_append_right _ _ (Nat.le_refl _), Nat.sub_self]
          simp
        have hskip : Q ++ X ++ l.drop j = Q ++ (X ++ [a]) ++ l.drop (j + 1) := by rw [hdr]; simp
        by_cases hd : a.booked > d
        · rw [decide_eq_true hd] at k1
          rw [if_neg (by omega), List.append_nil] at hsn
          (with_reducible repeat' (first|exact trivial|(apply byE;simp only [go_sem, ↓reduceIte, e1, e2, hln, z1, hj];try rfl)|apply Bg|apply Aa|apply As|apply Au|apply Av|apply Aj|apply At|apply Aw|apply Ab|apply Ac|apply Ad|apply Ae|apply Af|apply Ag|apply Ah|apply Ai|apply Ak|apply Al|((first|apply An|apply Ao);(case hs=>with_unfolding_all rfl))|apply Am|apply Ap|apply Aq|apply Ar|apply Ax|apply Ay|apply Az|apply Ba|apply Bb|apply Bc|apply Bd|apply Be|apply Ca|apply Cb|apply Cc|apply Cd|apply Ce|apply Cf|apply Cg|apply Ch|apply Ci|apply Bf|apply Cj|apply Ck|apply Cl|apply Cm|apply Cn|apply Co|apply Cp|(apply byR;with_unfolding_all rfl)|((first|apply byKt|apply byKs);kernel_rfl)|(apply byL;simp only [econs,List.map_cons,List.map_nil,List.cons_append,List.nil_append,OpS.nm,OpS.reads,OpS.turns,Nat.reduceAdd];try with_unfolding_all rfl)|(apply byG;intro hg;try simp only [hg])|(apply byQ;intro hq;try simp only [hqs] at hq;try (exfalso;omega))|(apply byI;intro K hK)|(apply byH;repeat (first|exact dst_z rfl|apply dst_s))|(apply byN;unfold NapOK;kernel_rfl)|(apply byD;first|(simp;done)|(simp [go_sem];done))|(refine hK _ _ ?_;clear hK;clear K)|omega|contradiction))
          (apply callL' [1] cl33 (k1); (case hp | hl => (simp only [go_sem, ↓reduceIte]; try rfl)); (case hx => (simp [AV.flat0])); (try (case hfz => (first | (simp only [go_sem]; done) | (simp [go_sem, fzo]; done)))))
          (with_reducible repeat' (first|exact trivial|(apply byE;simp only [go_sem, ↓reduceIte, e2];try rfl)|apply Bg|apply Aa|apply As|apply Au|apply Av|apply Aj|apply At|apply Aw|apply Ab|apply Ac|apply Ad|apply Ae|apply Af|apply Ag|apply Ah|apply Ai|apply Ak|apply Al|((first|apply An|apply Ao);(case hs=>with_unfolding_all rfl))|apply Am|apply Ap|apply Aq|apply Ar|apply Ax|apply Ay|apply Az|apply Ba|apply Bb|apply Bc|apply Bd|apply Be|apply Ca|apply Cb|apply Cc|apply Cd|apply Ce|apply Cf|apply Cg|apply Ch|apply Ci|apply Bf|apply Cj|apply Ck|apply Cl|apply Cm|apply Cn|apply Co|apply Cp|(apply byR;with_unfolding_all rfl)|((first|apply byKt|apply byKs);kernel_rfl)|(apply byL;simp only [econs,List.map_cons,List.map_nil,List.cons_append,List.nil_append,OpS.nm,OpS.reads,OpS.turns,Nat.reduceAdd];try with_unfolding_all rfl)|(apply byG;intro hg;try simp only [hg])|(apply byQ;intro hq;try simp only [hqs] at hq;try (exfalso;omega))|(apply byI;intro K hK)|(apply byH;repeat (first|exact dst_z rfl|apply dst_s))|(apply byN;unfold NapOK;kernel_rfl)|(apply byD;first|(simp;done)|(simp [go_sem];done))|(refine hK _ _ ?_;clear hK;clear K)|omega|contradiction))
          refine ⟨⟨(j + 1, Q, X ++ [a]), hj, by omega, hsn, by simp; omega, by simp⟩, id, ?_, by show l.length - (j + 1) < l.length - j; omega⟩
          simp only [hskip]
          simp only [go_sem, ↓reduceIte, hF]
          exact hFb
        · rw [decide_eq_false hd] at k1
          rw [if_pos (by omega)] at hsn
          (with_reducible repeat' (first|exact trivial|(apply byE;simp only [go_sem, ↓reduceIte, e1, e2, hln, z1, hj];try rfl)|apply Bg|apply Aa|apply As|apply Au|apply Av|apply Aj|apply At|apply Aw|apply Ab|apply Ac|apply Ad|apply Ae|apply Af|apply Ag|apply Ah|apply Ai|apply Ak|apply Al|((first|apply An|apply Ao);(case hs=>with_unfolding_all rfl))|apply Am|apply Ap|apply Aq|apply Ar|apply Ax|apply Ay|apply Az|apply Ba|apply Bb|apply Bc|apply Bd|apply Be|apply Ca|apply Cb|apply Cc|apply Cd|apply Ce|apply Cf|apply Cg|apply Ch|apply Ci|apply Bf|apply Cj|apply Ck|apply Cl|apply Cm|apply Cn|apply Co|apply Cp|(apply byR;with_unfolding_all rfl)|((first|apply byKt|apply byKs);kernel_rfl)|(apply byL;simp only [econs,List.map_cons,List.map_nil,List.cons_append,List.nil_append,OpS.nm,OpS.reads,OpS.turns,Nat.reduceAdd];try with_unfolding_all rfl)|(apply byG;intro hg;try simp only [hg])|(apply byQ;intro hq;try simp only [hqs] at hq;try (exfalso;omega))|(apply byI;intro K hK)|(apply byH;repeat (first|exact dst_z rfl|apply dst_s))|(apply byN;unfold NapOK;kernel_rfl)|(apply byD;first|(simp;done)|(simp [go_sem];done))|(refine hK _ _ ?_;clear hK;clear K)|omega|contradiction))
          (apply callL' [1] cl33 (k1); (case hp | hl => (simp only [go_sem, ↓reduceIte]; try rfl)); (case hx => (simp [AV.flat0])); (try (case hfz => (first | (simp only [go_sem]; done) | (simp [go_sem, fzo]; done)))))
          (with_reducible repeat' (first|exact trivial|(apply byE;simp only [go_sem, ↓reduceIte, e2, hln, z1, p1, hQ, e3];try rfl)|apply Bg|apply Aa|apply As|apply Au|apply Av|apply Aj|apply At|apply Aw|apply Ab|apply Ac|apply Ad|apply Ae|apply Af|apply Ag|apply Ah|apply Ai|apply Ak|apply Al|((first|apply An|apply Ao);(case hs=>with_unfolding_all rfl))|apply Am|apply Ap|apply Aq|apply Ar|apply Ax|apply Ay|apply Az|apply Ba|apply Bb|apply Bc|apply Bd|apply Be|apply Ca|apply Cb|apply Cc|apply Cd|apply Ce|apply Cf|apply Cg|apply Ch|apply Ci|apply Bf|apply Cj|apply Ck|apply Cl|apply Cm|apply Cn|apply Co|apply Cp|(apply byR;with_unfolding_all rfl)|((first|apply byKt|apply byKs);kernel_rfl)|(apply byL;simp only [econs,List.map_cons,List.map_nil,List.cons_append,List.nil_append,OpS.nm,OpS.reads,OpS.turns,Nat.reduceAdd];try with_unfolding_all rfl)|(apply byG;intro hg;try simp only [hg])|(apply byQ;intro hq;try simp only [hqs] at hq;try (exfalso;omega))|(apply byI;intro K hK)|(apply byH;repeat (first|exact dst_z rfl|apply dst_s))|(apply byN;unfold NapOK;kernel_rfl)|(apply byD;first|(simp;done)|(simp [go_sem];done))|(refine hK _ _ ?_;clear hK;clear K)|omega|contradiction))
          refine ⟨⟨(j + 1, Q ++ [a], X.drop 1 ++ [a]), hj, by omega, hsn, by simp; omega, by simp⟩, id, ?_, by show l.length - (j + 1) < l.length - j; omega⟩
          simp only [hput, List.length_append, List.length_singleton]
          simp only [go_sem, ↓reduceIte, hF]
          exact hFb
      · obtain rfl : j = l.length := by omega
        rw [List.take_length] at g5
        rw [g5, List.drop_length, List.append_nil]
        have hl3 := rowK_len (Q ++ X)
        rw [List.length_append, g3] at hl3
        (with_reducible repeat' (first|exact trivial|(apply byE;simp only [go_sem, ↓reduceIte, hj];try rfl)|apply Bg|apply Aa|apply As|apply Au|apply Av|apply Aj|apply At|apply Aw|apply Ab|apply Ac|apply Ad|apply Ae|apply Af|apply Ag|apply Ah|apply Ai|apply Ak|apply Al|((first|apply An|apply Ao);(case hs=>with_unfolding_all rfl))|apply Am|apply Ap|apply Aq|apply Ar|apply Ax|apply Ay|apply Az|apply Ba|apply Bb|apply Bc|apply Bd|apply Be|apply Ca|apply Cb|apply Cc|apply Cd|apply Ce|apply Cf|apply Cg|apply Ch|apply Ci|apply Bf|apply Cj|apply Ck|apply Cl|apply Cm|apply Cn|apply Co|apply Cp|(apply byR;with_unfolding_all rfl)|((first|apply byKt|apply byKs);kernel_rfl)|(apply byL;simp only [econs,List.map_cons,List.map_nil,List.cons_append,List.nil_append,OpS.nm,OpS.reads,OpS.turns,Nat.reduceAdd];try with_unfolding_all rfl)|(apply byG;intro hg;try simp only [hg])|(apply byQ;intro hq;try simp only [hqs] at hq;try (exfalso;omega))|(apply byI;intro K hK)|(apply byH;repeat (first|exact dst_z rfl|apply dst_s))|(apply byN;unfold NapOK;kernel_rfl)|(apply byD;first|(simp;done)|(simp [go_sem];done))|(refine hK _ _ ?_;clear hK;clear K)|omega|contradiction))
        · have hzl : (zerosR [AV.v (Value.int IntKind.i64 0), AV.v (Value.int IntKind.i64 0), AV.v (Value.int IntKind.i64 0)] (l.length - Q.length)).length = (l.length - Q.length) * 3 := zeros3_len _
          have hq := rowK_len Q
          have hx := rowK_len X
          refine ⟨?_, ?_⟩
          · rw [rowK_app, List.take_append_of_le_length (by omega), List.take_of_length_le (by omega), List.drop_of_length_le (by rw [List.length_append]; omega), List.append_nil]
          · rw [List.all_append, rowK_nms, zeros3_nms]
            rfl
theorem claimAt_f (f : File) (d : Int) (hl : f.acts.length ≤ 100000) : Fun Tryz.prog 20 [.agg f.flat, int d] (.agg (f.at d).flat) := by
  obtain ⟨c, l⟩ := f
  simp only at hl
  rcases Nat.eq_zero_or_pos l.length with h0 | h0
  · obtain rfl := List.length_eq_zero_iff.1 h0
    have k := del0_f d [] rfl
    have q : (File.mk c []).at d = ⟨c, []⟩ := rfl
    rw [q]
    have k1 := clone_f [] (by simp)
    refine fun_W mixed Tryz.func20 rfl (Nat.le_of_ble_eq_true rfl) (by kernel_rfl) fun cx hN hR hF hL => ?_; apply args_k; (case hA => (simp only [go_sem, ↓reduceIte]; rfl))
    (with_reducible repeat' (first|exact trivial|(apply byE;simp only [go_sem, ↓reduceIte];try rfl)|apply Bg|apply Aa|apply As|apply Au|apply Av|apply Aj|apply At|apply Aw|apply Ab|apply Ac|apply Ad|apply Ae|apply Af|apply Ag|apply Ah|apply Ai|apply Ak|apply Al|((first|apply An|apply Ao);(case hs=>with_unfolding_all rfl))|apply Am|apply Ap|apply Aq|apply Ar|apply Ax|apply Ay|apply Az|apply Ba|apply Bb|apply Bc|apply Bd|apply Be|apply Ca|apply Cb|apply Cc|apply Cd|apply Ce|apply Cf|apply Cg|apply Ch|apply Ci|apply Bf|apply Cj|apply Ck|apply Cl|apply Cm|apply Cn|apply Co|apply Cp|(apply byR;with_unfolding_all rfl)|((first|apply byKt|apply byKs);kernel_rfl)|(apply byL;simp only [econs,List.map_cons,List.map_nil,List.cons_append,List.nil_append,OpS.nm,OpS.reads,OpS.turns,Nat.reduceAdd];try with_unfolding_all rfl)|(apply byG;intro hg;try simp only [hg])|(apply byQ;intro hq;try simp only [hqs] at hq;try (exfalso;omega))|(apply byI;intro K hK)|(apply byH;repeat (first|exact dst_z rfl|apply dst_s))|(apply byN;unfold NapOK;kernel_rfl)|(apply byD;first|(simp;done)|(simp [go_sem];done))|(refine hK _ _ ?_;clear hK;clear K)|omega|(apply callX cl32 (k1);(case hl=>with_unfolding_all rfl))|contradiction))
    (apply callB' [8] cl31 (k); (case h1 | h2 | h3 => (simp only [go_sem, ↓reduceIte]; try rfl)); (case hl | hs | hfp | hfr => (simp [go_sem]; done)))
    (with_reducible repeat' (first|exact trivial|(apply byE;simp only [go_sem, ↓reduceIte];try rfl)|apply Bg|apply Aa|apply As|apply Au|apply Av|apply Aj|apply At|apply Aw|apply Ab|apply Ac|apply Ad|apply Ae|apply Af|apply Ag|apply Ah|apply Ai|apply Ak|apply Al|((first|apply An|apply Ao);(case hs=>with_unfolding_all rfl))|apply Am|apply Ap|apply Aq|apply Ar|apply Ax|apply Ay|apply Az|apply Ba|apply Bb|apply Bc|apply Bd|apply Be|apply Ca|apply Cb|apply Cc|apply Cd|apply Ce|apply Cf|apply Cg|apply Ch|apply Ci|apply Bf|apply Cj|apply Ck|apply Cl|apply Cm|apply Cn|apply Co|apply Cp|(apply byR;with_unfolding_all rfl)|((first|apply byKt|apply byKs);kernel_rfl)|(apply byL;simp only [econs,List.map_cons,List.map_nil,List.cons_append,List.nil_append,OpS.nm,OpS.reads,OpS.turns,Nat.reduceAdd];try with_unfolding_all rfl)|(apply byG;intro hg;try simp only [hg])|(apply byQ;intro hq;try simp only [hqs] at hq;try (exfalso;omega))|(apply byI;intro K hK)|(apply byH;repeat (first|exact dst_z rfl|apply dst_s))|(apply byN;unfold NapOK;kernel_rfl)|(apply byD;first|(simp;done)|(simp [go_sem];done))|(refine hK _ _ ?_;clear hK;clear K)|omega|contradiction))
  · have k1 := cloneK_f l hl
    have k2 := del_f d l h0 hl
    refine fun_W mixed Tryz.func20 rfl (Nat.le_of_ble_eq_true rfl) (by kernel_rfl) fun cx hN hR hF hL => ?_; apply args_k; (case hA => (simp only [go_sem, ↓reduceIte]; rfl))
    (with_reducible repeat' (first|exact trivial|(apply byE;simp only [go_sem, ↓reduceIte];try rfl)|apply Bg|apply Aa|apply As|apply Au|apply Av|apply Aj|apply At|apply Aw|apply Ab|apply Ac|apply Ad|apply Ae|apply Af|apply Ag|apply Ah|apply Ai|apply Ak|apply Al|((first|apply An|apply Ao);(case hs=>with_unfolding_all rfl))|apply Am|apply Ap|apply Aq|apply Ar|apply Ax|apply Ay|apply Az|apply Ba|apply Bb|apply Bc|apply Bd|apply Be|apply Ca|apply Cb|apply Cc|apply Cd|apply Ce|apply Cf|apply Cg|apply Ch|apply Ci|apply Bf|apply Cj|apply Ck|apply Cl|apply Cm|apply Cn|apply Co|apply Cp|(apply byR;with_unfolding_all rfl)|((first|apply byKt|apply byKs);kernel_rfl)|(apply byL;simp only [econs,List.map_cons,List.map_nil,List.cons_append,List.nil_append,OpS.nm,OpS.reads,OpS.turns,Nat.reduceAdd];try with_unfolding_all rfl)|(apply byG;intro hg;try simp only [hg])|(apply byQ;intro hq;try simp only [hqs] at hq;try (exfalso;omega))|(apply byI;intro K hK)|(apply byH;repeat (first|exact dst_z rfl|apply dst_s))|(apply byN;unfold NapOK;kernel_rfl)|(apply byD;first|(simp;done)|(simp [go_sem];done))|(refine hK _ _ ?_;clear hK;clear K)|omega|contradiction))
    (apply callB' [1016] cl32 (k1); (case h1 | h2 | h3 => (simp only [go_sem, ↓reduceIte]; try rfl)); (case hl | hs | hfp | hfr => (simp [go_sem]; done)))
    (with_reducible repeat' (first|exact trivial|(apply byE;simp only [go_sem, ↓reduceIte];try rfl)|apply Bg|apply Aa|apply As|apply Au|apply Av|apply Aj|apply At|apply Aw|apply Ab|apply Ac|apply Ad|apply Ae|apply Af|apply Ag|apply Ah|apply Ai|apply Ak|apply Al|((first|apply An|apply Ao);(case hs=>with_unfolding_all rfl))|apply Am|apply Ap|apply Aq|apply Ar|apply Ax|apply Ay|apply Az|apply Ba|apply Bb|apply Bc|apply Bd|apply Be|apply Ca|apply Cb|apply Cc|apply Cd|apply Ce|apply Cf|apply Cg|apply Ch|apply Ci|apply Bf|apply Cj|apply Ck|apply Cl|apply Cm|apply Cn|apply Co|apply Cp|(apply byR;with_unfolding_all rfl)|((first|apply byKt|apply byKs);kernel_rfl)|(apply byL;simp only [econs,List.map_cons,List.map_nil,List.cons_append,List.nil_append,OpS.nm,OpS.reads,OpS.turns,Nat.reduceAdd];try with_unfolding_all rfl)|(apply byG;intro hg;try simp only [hg])|(apply byQ;intro hq;try simp only [hqs] at hq;try (exfalso;omega))|(apply byI;intro K hK)|(apply byH;repeat (first|exact dst_z rfl|apply dst_s))|(apply byN;unfold NapOK;kernel_rfl)|(apply byD;first|(simp;done)|(simp [go_sem];done))|(refine hK _ _ ?_;clear hK;clear K)|omega|contradiction))
    (apply callB' [1016, 8] cl31 (k2); (case h1 | h2 | h3 => (simp only [go_sem, ↓reduceIte]; try rfl)); (case hl | hs | hfp | hfr => (simp [go_sem]; done)))
    (with_reducible repeat' (first|exact trivial|(apply byE;simp only [go_sem, ↓reduceIte];try rfl)|apply Bg|apply Aa|apply As|apply Au|apply Av|apply Aj|apply At|apply Aw|apply Ab|apply Ac|apply Ad|apply Ae|apply Af|apply Ag|apply Ah|apply Ai|apply Ak|apply Al|((first|apply An|apply Ao);(case hs=>with_unfolding_all rfl))|apply Am|apply Ap|apply Aq|apply Ar|apply Ax|apply Ay|apply Az|apply Ba|apply Bb|apply Bc|apply Bd|apply Be|apply Ca|apply Cb|apply Cc|apply Cd|apply Ce|apply Cf|apply Cg|apply Ch|apply Ci|apply Bf|apply Cj|apply Ck|apply Cl|apply Cm|apply Cn|apply Co|apply Cp|(apply byR;with_unfolding_all rfl)|((first|apply byKt|apply byKs);kernel_rfl)|(apply byL;simp only [econs,List.map_cons,List.map_nil,List.cons_append,List.nil_append,OpS.nm,OpS.reads,OpS.turns,Nat.reduceAdd];try with_unfolding_all rfl)|(apply byG;intro hg;try simp only [hg])|(apply byQ;intro hq;try simp only [hqs] at hq;try (exfalso;omega))|(apply byI;intro K hK)|(apply byH;repeat (first|exact dst_z rfl|apply dst_s))|(apply byN;unfold NapOK;kernel_rfl)|(apply byD;first|(simp;done)|(simp [go_sem];done))|(refine hK _ _ ?_;clear hK;clear K)|omega|contradiction))
    refine ⟨rfl, rfl, rfl, rfl, rfl, rfl, ⟨rfl, rows_len (F := Act.flat) (fun _ => rfl) _⟩, ?_⟩
    rw [List.map_append, rowK_ren, zeros3_ren]
    exact fzo_pre _ _ _ _
@[go_sem] theorem rowF_ren (r : Nat → Nat) (l : List File) : (rowC File.flat l).map (AV.ren r) = rowC File.flat l := rows_ren (fun x r => by simp [File.flat]) r l
@[go_sem] theorem rowF_nms (p : Nat → Bool) (l : List File) : (rowC File.flat l).all (AV.names p) = true := rows_nms (fun x p => by simp [File.flat]) p l
theorem rowF_len (l : List File) : (rowC File.flat l).length = l.length * 7 := rowC_len (F := File.flat) (k := 7) (fun _ => rfl) l
theorem rowF_snoc (l : List File) (f : File) : rowC File.flat (l ++ [f]) = rowC File.flat l ++ [int f.claim.id, int f.claim.policy, int f.claim.peril, int f.claim.loss, int f.claim.booked, int f.claim.event, actsA f.acts] := by simp [rowC, File.flat]
theorem fz_files {box : Boxes} {b n : Nat} {t : TypeId} {L : List File} (d : Nat) (h : bget box b = some ⟨t, rowC File.flat L⟩) (hn : n = L.length) : fz box (d + 1) (.osl b 7 0 n) (filesA L) := by
  rw [fz_osl, h]
  exact ⟨⟨rfl, rfl, by omega, by simp [hn], rows_len (F := File.flat) (fun _ => rfl) L⟩, fzo_rows (F := File.flat) (k := 7) (fun _ => rfl) (fun _ => by simp [File.flat]) L hn⟩
end Go.Proofs.YtjplhfmakghabaaGreat.V
set_option linter.unusedSimpArgs false
set_option linter.unusedVariables false
namespace Go.Proofs.YtjplhfmakghabaaGreat.V
open Go.RowKit
set_option maxRecDepth 100000
attribute [local go_sem] Option.toList_some Option.toList_none

theorem right1_f (c : Cover) (f : File) : FunB Tryz.prog 84 [(0, ⟨23, c.flat⟩)] [.agg f.flat, .ptr 0 0] (bool (!okFile c.peril f)) [] := by
  refine fun_WB 1 mixed Tryz.func84 rfl (Nat.le_of_ble_eq_true rfl) (by kernel_rfl) (by simp [go_sem]) fun cx hN hR hF hL => ?_; apply args_kb; (case hA => (simp only [go_sem, ↓reduceIte]; rfl)); (case hB => (simp only [go_sem, ↓reduceIte]; rfl))
  (repeat' first|((try (revert K;refine bK ?_));refine' run trivial ?_;(repeat' first|exact True.intro|refine Lv.mk ?_ ?_|(refine oK ?_;intro K hK)|intro hq);all_goals refine Lf.mk ?_)|refine callZ cl85 (formed_f f.claim) ?_|refine callZ cl86 (made_f f) ?_)
  have h : (!f.claim.formedB || !decide (f.claim.peril = c.peril) || !f.made) = !okFile c.peril f := by simp [okFile]
  exact .inl h
def badAt (p : Int) (l : List File) : Option Nat := l.findIdx? fun f => !okFile p f
def badI (p : Int) : Int → List File → Int
  | _, [] => -1
  | i, f :: l => if okFile p f then badI p (i + 1) l else i
theorem badI_all (p : Int) : ∀ (l : List File) (i : Int), 0 ≤ i → decide (0 ≤ badI p i l) = !l.all (okFile p)
  | [], i, _ => rfl
  | f :: l, i, hi => by
    rw [badI, List.all_cons]
    by_cases h : okFile p f = true
    · rw [if_pos h, badI_all p l (i + 1) (by omega), h]; rfl
    · rw [if_neg h]
      simp only [Bool.not_eq_true] at h
      rw [h]
      simp [hi]
theorem index_f (c : Cover) (l : List File) : FunB Tryz.prog 95 [(0, ⟨23, c.flat⟩)] [filesA l, .fn (.func 84) [] [.ptr 0 0]] (int (badI c.peril 0 l)) [] := by
  refine fun_WB 1 mixed Tryz.func95 rfl (Nat.le_of_ble_eq_true rfl) (by kernel_rfl) (by simp [go_sem]) fun cx hN hR hF hL => ?_; apply args_kb; (case hA => (simp only [go_sem, ↓reduceIte]; rfl)); (case hB => (simp only [go_sem, ↓reduceIte]; rfl))
  have hll : l.length ≤ 9223372036854775807 := by
    have := hL.1
    simp [maxLen] at this
    omega
  have hb : ∀ b g, cx.F b = some g → b < 3000 := fun b g h => by
    have := hF b g h
    simp [inl] at this
    omega
  (try ((try (revert K;refine bK ?_));refine' run trivial ?_;(repeat' first|exact True.intro|refine Lv.mk ?_ ?_|(refine oK ?_;intro K hK)|intro hq);all_goals refine Lf.mk ?_))
  refine loopW mixed (σ := {i : Nat // i ≤ l.length ∧ badI c.peril 0 l = badI c.peril i (l.drop i)}) (fun s => ⟨[(8, int s.1), (7, int l.length), (4, int 0), (1, .fn (.func 84) [] [.ptr 0 0]), (0, filesA l)], [(0, some ⟨23, c.flat⟩)], 3000⟩) (fun s => l.length - s.1) id ⟨0, by omega, rfl⟩ (by rw [hN]; kernel_rfl) ?_ ?_
  · simp only [go_sem, ↓reduceIte, hF]
    exact ⟨rfl, hb⟩
  · rintro ⟨i, h1, h2⟩
    by_cases hi : i < l.length
    · have e0 : l[i]? = some l[i] := List.getElem?_eq_getElem hi
      have e1 : (l.map File.flat)[i]? = some l[i].flat := by rw [List.getElem?_map, e0]; rfl
      have e2 : IntKind.i64.wrap ((i : Int) + 1) = ((i + 1 : Nat) : Int) := by rw [wrap_id] <;> omega
      have hk1 : i < (l.map File.flat).length := by simpa using hi
      (try ((try (revert K;refine bK ?_));refine' run (I e1 (I e2 hk1)) ?_;(repeat' first|exact True.intro|refine Lv.mk ?_ ?_|(refine oK ?_;intro K hK)|intro hq);all_goals refine Lf.mk ?_))
      rw [List.drop_eq_getElem_cons hi, badI] at h2
      generalize l[i] = f at *
      (apply callB' [0] cl84 (right1_f c f); (case h1 | h2 | h3 => (simp only [go_sem, ↓reduceIte]; try rfl)); (case hl | hs | hfp | hfr => (simp [go_sem]; done)))
      (try ((try (revert K;refine bK ?_));refine' run (I e1 e2) ?_;(repeat' first|exact True.intro|refine Lv.mk ?_ ?_|(refine oK ?_;intro K hK)|intro hq);all_goals refine Lf.mk ?_))
      · rw [if_neg (by rw [hq]; decide)] at h2
        exact .inl h2.symm
      · rw [if_pos hq] at h2
        refine ⟨⟨i + 1, by omega, by rw [h2]; rfl⟩, id, ?_, by show l.length - (i + 1) < l.length - i; omega⟩
        simp only [go_sem, ↓reduceIte, hF]
        exact hb
    · (try ((try (revert K;refine bK ?_));refine' run trivial ?_;(repeat' first|exact True.intro|refine Lv.mk ?_ ?_|(refine oK ?_;intro K hK)|intro hq);all_goals refine Lf.mk ?_))
      rw [List.drop_eq_nil_of_le (by omega), badI] at h2
      rw [h2]
      exact .inl rfl

theorem contains_f (c : Cover) (l : List File) : FunB Tryz.prog 87 [(0, ⟨23, c.flat⟩)] [filesA l, .fn (.func 84) [] [.ptr 0 0]] (bool (!l.all (okFile c.peril))) [] := by
  have hd := badI_all c.peril l 0 (by omega)
  refine fun_WB 1 mixed Tryz.func87 rfl (Nat.le_of_ble_eq_true rfl) (by kernel_rfl) (by simp [go_sem]) fun cx hN hR hF hL => ?_; apply args_kb; (case hA => (simp only [go_sem, ↓reduceIte]; rfl)); (case hB => (simp only [go_sem, ↓reduceIte]; rfl))
  (try ((try (revert K;refine bK ?_));refine' run trivial ?_;(repeat' first|exact True.intro|refine Lv.mk ?_ ?_|(refine oK ?_;intro K hK)|intro hq);all_goals refine Lf.mk ?_))
  (apply callB' [0] cl95 (index_f c l); (case h1 | h2 | h3 => (simp only [go_sem, ↓reduceIte]; try rfl)); (case hl | hs | hfp | hfr => (simp [go_sem]; done)))
  (try ((try (revert K;refine bK ?_));refine' run trivial ?_;(repeat' first|exact True.intro|refine Lv.mk ?_ ?_|(refine oK ?_;intro K hK)|intro hq);all_goals refine Lf.mk ?_))
  exact .inl hd
theorem aright_f (c : Cover) (l : List File) (hc : c.ok) : Fun Tryz.prog 64 [.agg c.flat, filesA l] (bool (adjRight c l)) := by
  by_cases hr : c.rightB = true
  · refine fun_W mixed Tryz.func64 rfl (Nat.le_of_ble_eq_true rfl) (by kernel_rfl) fun cx hN hR hF hL => ?_; apply args_k; (case hA => (simp only [go_sem, ↓reduceIte]; rfl))
    (repeat' first|((try (revert K;refine bK ?_));refine' run hr ?_;(repeat' first|exact True.intro|refine Lv.mk ?_ ?_|(refine oK ?_;intro K hK)|intro hq);all_goals refine Lf.mk ?_)|refine callZ cl46 (cRight_f c hc) ?_)
    (apply callB' [0] cl87 (contains_f c l); (case h1 | h2 | h3 => (simp only [go_sem, ↓reduceIte]; try rfl)); (case hl | hs | hfp | hfr => (simp [go_sem]; done)))
    (try ((try (revert K;refine bK ?_));refine' run hr ?_;(repeat' first|exact True.intro|refine Lv.mk ?_ ?_|(refine oK ?_;intro K hK)|intro hq);all_goals refine Lf.mk ?_))
    simp [adjRight, hr]
  · simp only [Bool.not_eq_true] at hr
    refine fun_W mixed Tryz.func64 rfl (Nat.le_of_ble_eq_true rfl) (by kernel_rfl) fun cx hN hR hF hL => ?_; apply args_k; (case hA => (simp only [go_sem, ↓reduceIte]; rfl))
    (repeat' first|((try (revert K;refine bK ?_));refine' run hr ?_;(repeat' first|exact True.intro|refine Lv.mk ?_ ?_|(refine oK ?_;intro K hK)|intro hq);all_goals refine Lf.mk ?_)|refine callZ cl46 (cRight_f c hc) ?_)
    simp [adjRight, hr]
theorem wrap_wadd (a b : Int) : IntKind.i64.wrap (IntKind.i64.wrap a + b) = IntKind.i64.wrap (a + b) := by
  unfold IntKind.wrap
  simp [IntKind.bits, IntKind.signed]
  (repeat' split) <;> omega
theorem acts_f (l : List File) : Fun Tryz.prog 35 [filesA l] (int (IntKind.i64.wrap (actsN l))) := by
  refine fun_W mixed Tryz.func35 rfl (Nat.le_of_ble_eq_true rfl) (by kernel_rfl) fun cx hN hR hF hL => ?_; apply args_k; (case hA => (simp only [go_sem, ↓reduceIte]; rfl))
  have hl : l.length ≤ 9223372036854775807 := by
    simp [maxLen] at hL
    omega
  (try ((try (revert K;refine bK ?_));refine' run trivial ?_;(repeat' first|exact True.intro|refine Lv.mk ?_ ?_|(refine oK ?_;intro K hK)|intro hq);all_goals refine Lf.mk ?_))
  refine loopW mixed (σ := {i : Nat // i ≤ l.length}) (fun s => ⟨[(4, int s.1), (3, int (IntKind.i64.wrap (actsN (l.take s.1)))), (0, filesA l)], [], 4000⟩) (fun s => l.length - s.1) id ⟨0, by omega⟩ (by rw [hN]; kernel_rfl) ?_ ?_
  · simp only [go_sem, ↓reduceIte, hF]
    exact ⟨rfl, rfl⟩
  · rintro ⟨i, h1⟩
    by_cases hi : i < l.length
    · have e0 : l[i]? = some l[i] := List.getElem?_eq_getElem hi
      have e1 : (l.map File.flat)[i]? = some l[i].flat := by rw [List.getElem?_map, e0]; rfl
      have e2 : IntKind.i64.wrap ((i : Int) + 1) = ((i + 1 : Nat) : Int) := by rw [wrap_id] <;> omega
      have hk1 : i < (l.map File.flat).length := by simpa using hi
      have hs := actsN_snoc e0
      generalize l[i] = f at *
      have e3 : IntKind.i64.wrap (IntKind.i64.wrap (actsN (l.take i) : Int) + (f.acts.length : Int)) = IntKind.i64.wrap ((actsN (l.take (i + 1)) : Nat) : Int) := by
        rw [hs]
        rw [wrap_wadd, Int.natCast_add]
      (try ((try (revert K;refine bK ?_));refine' run (I e1 (I e2 (I e3 hk1))) ?_;(repeat' first|exact True.intro|refine Lv.mk ?_ ?_|(refine oK ?_;intro K hK)|intro hq);all_goals refine Lf.mk ?_))
      refine ⟨⟨i + 1, by omega⟩, id, ?_, by show l.length - (i + 1) < l.length - i; omega⟩
      simp only [go_sem, ↓reduceIte, hF]
    · obtain rfl : i = l.length := by omega
      (try ((try (revert K;refine bK ?_));refine' run trivial ?_;(repeat' first|exact True.intro|refine Lv.mk ?_ ?_|(refine oK ?_;intro K hK)|intro hq);all_goals refine Lf.mk ?_))
      rw [List.take_length]
def fewB (l : List File) : Bool := decide (l.length ≤ 30) && decide (IntKind.i64.wrap (actsN l) ≤ 200)
theorem actsN_le (l : List File) : ∀ (m : Nat), (∀ f, f ∈ l → f.acts.length ≤ m) → actsN l ≤ l.length * m := by
  intro m
  induction l with
  | nil => intro _; simp [actsN]
  | cons f l ih =>
    intro h
    have h1 := h f (by simp)
    have h2 := ih fun g hg => h g (by simp [hg])
    have : actsN (f :: l) = f.acts.length + actsN l := by simp [actsN]
    rw [this, List.length_cons, Nat.succ_mul]
    omega
theorem right_len {c : Cover} {l : List File} (h : adjRight c l = true) : ∀ f, f ∈ l → f.acts.length ≤ 2000 := by
  intro f hf
  rw [adjRight, Bool.and_eq_true, List.all_eq_true] at h
  have := h.2 f hf
  rw [okFile, Bool.and_eq_true] at this
  exact (made_good this.2).len
theorem right_few {c : Cover} {l : List File} (h : adjRight c l = true) (hf : fewB l = true) : l.length ≤ 30 ∧ actsN l ≤ 200 := by
  rw [fewB, Bool.and_eq_true, decide_eq_true_eq, decide_eq_true_eq] at hf
  have h2 := actsN_le l 2000 (right_len h)
  have h3 : l.length * 2000 ≤ 30 * 2000 := Nat.mul_le_mul_right _ hf.1
  rw [wrap_id (by omega) (by omega)] at hf
  omega
/-- Why no files are adjusted. -/
def checkE (c : Cover) (l : List File) : Int := if adjRight c l = false then 1 else if 2000 < l.length ∨ 2000 < actsN l then 2 else 0
theorem check_f (c : Cover) (l : List File) (hc : c.ok) (hl : l.length ≤ 100000) : Fun Tryz.prog 42 [.agg c.flat, filesA l] (int (checkE c l)) := by
  by_cases hr : adjRight c l = true
  · have hm := actsN_le l 2000 (right_len hr)
    have hm2 : l.length * 2000 ≤ 100000 * 2000 := Nat.mul_le_mul_right _ hl
    refine fun_W mixed Tryz.func42 rfl (Nat.le_of_ble_eq_true rfl) (by kernel_rfl) fun cx hN hR hF hL => ?_; apply args_k; (case hA => (simp only [go_sem, ↓reduceIte]; rfl))
    (repeat' first|((try (revert K;refine bK ?_));refine' run hr ?_;(repeat' first|exact True.intro|refine Lv.mk ?_ ?_|(refine oK ?_;intro K hK)|intro hq);all_goals refine Lf.mk ?_)|refine callZ cl64 (aright_f c l hc) ?_)
    refine loopW mixed (σ := {i : Nat // i ≤ l.length}) (fun s => ⟨[(14, int s.1), (5, int (actsN (l.take s.1))), (12, filesA l), (13, int l.length), (1, filesA l)], [], 4000⟩) (fun s => l.length - s.1) id ⟨0, by omega⟩ (by rw [hN]; kernel_rfl) ?_ ?_
    · simp only [go_sem, ↓reduceIte, hF]
      exact ⟨rfl, rfl⟩
    · rintro ⟨i, h1⟩
      by_cases hi : i < l.length
      · have e0 : l[i]? = some l[i] := List.getElem?_eq_getElem hi
        have e1 : (l.map File.flat)[i]? = some l[i].flat := by rw [List.getElem?_map, e0]; rfl
        have e2 : IntKind.i64.wrap ((i : Int) + 1) = ((i + 1 : Nat) : Int) := by rw [wrap_id] <;> omega
        have hk1 : i < (l.map File.flat).length := by simpa using hi
        have hs := actsN_snoc e0
        have ht := actsN_take l (i + 1)
        generalize l[i] = f at *
        have e3 : IntKind.i64.wrap ((actsN (l.take i) : Int) + (f.acts.length : Int)) = ((actsN (l.take (i + 1)) : Nat) : Int) := by rw [wrap_id] <;> omega
        (try ((try (revert K;refine bK ?_));refine' run (I e1 (I e2 (I e3 hk1))) ?_;(repeat' first|exact True.intro|refine Lv.mk ?_ ?_|(refine oK ?_;intro K hK)|intro hq);all_goals refine Lf.mk ?_))
        refine ⟨⟨i + 1, by omega⟩, id, ?_, by show l.length - (i + 1) < l.length - i; omega⟩
        simp only [go_sem, ↓reduceIte, hF]
      · obtain rfl : i = l.length := by omega
        simp only [List.take_length]
        (try ((try (revert K;refine bK ?_));refine' run trivial ?_;(repeat' first|exact True.intro|refine Lv.mk ?_ ?_|(refine oK ?_;intro K hK)|intro hq);all_goals refine Lf.mk ?_))
        · rw [checkE, if_neg (by rw [hr]; decide), if_pos (by omega)]
        · rw [checkE, if_neg (by rw [hr]; decide), if_neg (by omega)]
  · simp only [Bool.not_eq_true] at hr
    refine fun_W mixed Tryz.func42 rfl (Nat.le_of_ble_eq_true rfl) (by kernel_rfl) fun cx hN hR hF hL => ?_; apply args_k; (case hA => (simp only [go_sem, ↓reduceIte]; rfl))
    (repeat' first|((try (revert K;refine bK ?_));refine' run hr ?_;(repeat' first|exact True.intro|refine Lv.mk ?_ ?_|(refine oK ?_;intro K hK)|intro hq);all_goals refine Lf.mk ?_)|refine callZ cl64 (aright_f c l hc) ?_)
    simp [checkE, hr]
end Go.Proofs.YtjplhfmakghabaaGreat.V
set_option linter.unusedSimpArgs false
set_option linter.unusedVariables false
namespace Go.Proofs.YtjplhfmakghabaaGreat.V
set_option maxRecDepth 100000

section
variable {α : Type} {lt : α → α → Bool}

theorem insR_front {x : α} : ∀ (P : List α), (∀ h, h ∈ P → lt x h = false) → insR lt x P = x :: P
  | [], _ => rfl
  | p :: P, h => by rw [insR, h p (by simp), if_neg (by simp)]
theorem isortR_srt (h : SW lt) (S : List α) : (isortR lt S).Pairwise fun a b => lt a b = false := by
  have := isort_srt h S
  unfold isort Srt at this
  rwa [List.pairwise_reverse] at this
theorem insR_filter (h : SW lt) (p : α → Bool) (x : α) : ∀ (R : List α), R.Pairwise (fun a b => lt a b = false) → (insR lt x R).filter p = if p x = true then insR lt x (R.filter p) else R.filter p
  | [], _ => by
    cases hp : p x <;> simp [insR, hp]
  | q :: R, hR => by
    rw [List.pairwise_cons] at hR
    have ih := insR_filter h p x R hR.2
    rw [insR]
    cases hl : lt x q
    · rw [if_neg (by simp)]
      cases hp : p x
      · simp [hp]
      · rw [if_pos rfl, List.filter_cons_of_pos hp]
        refine (insR_front _ fun y hy => ?_).symm
        have hy := List.mem_filter.1 hy
        rcases List.mem_cons.1 hy.1 with rfl | hy1
        · exact hl
        · exact h.ntr y q x (hR.1 y hy1) hl
    · rw [if_pos rfl]
      cases hq : p q
      · rw [List.filter_cons_of_neg (by simp [hq]), List.filter_cons_of_neg (by simp [hq])]
        exact ih
      · rw [List.filter_cons_of_pos hq, List.filter_cons_of_pos hq, ih]
        cases hp : p x
        · simp
        · simp only [if_true]
          rw [insR, hl, if_pos rfl]
theorem isort_filter (h : SW lt) (p : α → Bool) (S : List α) : (isort lt S).filter p = isort lt (S.filter p) := by
  have key : ∀ n (S : List α), S.length = n → (isortR lt S).filter p = isortR lt (S.filter p) := by
    intro n
    induction n with
    | zero => intro S hS; obtain rfl := List.eq_nil_of_length_eq_zero hS; rfl
    | succ n ih =>
      intro S hS
      rcases List.eq_nil_or_concat S with rfl | ⟨S, x, rfl⟩
      · rfl
      · rw [List.concat_eq_append] at *
        have hS' : S.length = n := by simp at hS; exact hS
        rw [isortR_snoc, insR_filter h p x _ (isortR_srt h S), ih S hS', List.filter_append]
        cases hp : p x
        · simp [hp]
        · simp only [if_true, List.filter_cons_of_pos hp, List.filter_nil]
          rw [isortR_snoc]
  unfold isort
  rw [List.filter_reverse, key _ S rfl]
theorem isort_id (h : SW lt) {S : List α} (hS : Srt lt S) : isort lt S = S := by
  have key : ∀ n (S : List α), S.length = n → Srt lt S → isortR lt S = S.reverse := by
    intro n
    induction n with
    | zero => intro S hn _; obtain rfl := List.eq_nil_of_length_eq_zero hn; rfl
    | succ n ih =>
      intro S hn hS
      rcases List.eq_nil_or_concat S with rfl | ⟨S, x, rfl⟩
      · rfl
      · rw [List.concat_eq_append] at *
        have hS2 := List.pairwise_append.1 hS
        rw [isortR_snoc, ih S (by simp at hn; exact hn) hS2.1, insR_front _ fun y hy => hS2.2.2 y (by simpa using hy) x (by simp)]
        simp
  unfold isort
  rw [key _ S rfl hS, List.reverse_reverse]
end

/-- Sorted rows of steps are told by their files' parts. -/
theorem srt_unique : ∀ {A B : List Stp}, Srt ltT A → Srt ltT B → (∀ k : Int, A.filter (fun s => decide (s.file = k)) = B.filter fun s => decide (s.file = k)) → A = B
  | [], [], _, _, _ => rfl
  | [], y :: B, _, _, h => by have := h y.file; simp at this
  | x :: A, [], _, _, h => by have := h x.file; simp at this
  | x :: A, y :: B, sA, sB, h => by
    have sA2 := List.pairwise_cons.1 sA
    have sB2 := List.pairwise_cons.1 sB
    by_cases he : x.file = y.file
    · have h1 := h x.file
      rw [List.filter_cons_of_pos (by simp), List.filter_cons_of_pos (by simp [he])] at h1
      injection h1 with h1 h2
      subst h1
      congr 1
      refine srt_unique sA2.2 sB2.2 fun k => ?_
      have h3 := h k
      by_cases hk : x.file = k
      · subst hk; exact h2
      · rwa [List.filter_cons_of_neg (by simpa using hk), List.filter_cons_of_neg (by simpa using hk)] at h3
    · exfalso
      have hx : x ∈ B := by
        have h1 := h x.file
        rw [List.filter_cons_of_pos (by simp)] at h1
        have : x ∈ (y :: B).filter fun s => decide (s.file = x.file) := by rw [← h1]; simp
        have := (List.mem_filter.1 this).1
        rcases List.mem_cons.1 this with rfl | h
        · exact absurd rfl he
        · exact h
      have hy : y ∈ A := by
        have h1 := h y.file
        rw [List.filter_cons_of_pos (l := B) (by simp)] at h1
        have : y ∈ (x :: A).filter fun s => decide (s.file = y.file) := by rw [h1]; simp
        have := (List.mem_filter.1 this).1
        rcases List.mem_cons.1 this with rfl | h
        · exact absurd rfl he
        · exact h
      have l1 := sA2.1 y hy
      have l2 := sB2.1 x hx
      simp only [ltT, Bool.or_eq_false_iff, Bool.and_eq_false_iff, decide_eq_false_iff_not] at l1 l2
      omega

/-- One file's part. -/
def fileK (l : List File) (k : Nat) : List Stp := match l[k]? with | some f => f.acts.map fun a => ⟨k, a⟩ | none => []
theorem stepsL_filter (l : List File) (k : Nat) : ∀ b, (stepsL b l).filter (fun s => decide (s.file = ((b + k : Nat) : Int))) = match l[k]? with | some f => f.acts.map fun a => ⟨((b + k : Nat) : Int), a⟩ | none => [] := by
  induction l generalizing k with
  | nil => intro b; simp [stepsL]
  | cons f l ih =>
    intro b
    rw [stepsL, List.filter_append]
    rcases k with _ | k
    · have h1 : (f.acts.map fun a => (⟨b, a⟩ : Stp)).filter (fun s => decide (s.file = ((b + 0 : Nat) : Int))) = f.acts.map fun a => ⟨b, a⟩ := by
        rw [List.filter_eq_self]
        intro s hs
        obtain ⟨a, -, rfl⟩ := List.mem_map.1 hs
        simp
      have h2 : (stepsL (b + 1) l).filter (fun s => decide (s.file = ((b + 0 : Nat) : Int))) = [] := by
        rw [List.filter_eq_nil_iff]
        intro s hs
        obtain ⟨i, g, -, h, -⟩ := stepsL_mem hs
        simp [h]
        omega
      rw [h1, h2]
      simp
    · have h1 : (f.acts.map fun a => (⟨b, a⟩ : Stp)).filter (fun s => decide (s.file = ((b + (k + 1) : Nat) : Int))) = [] := by
        rw [List.filter_eq_nil_iff]
        intro s hs
        obtain ⟨a, -, rfl⟩ := List.mem_map.1 hs
        simp
        omega
      have := ih k (b + 1)
      rw [h1, List.nil_append, show b + (k + 1) = b + 1 + k by omega, this]
      simp
theorem stepsL_fileK (l : List File) (k : Nat) : (stepsL 0 l).filter (fun s => decide (s.file = (k : Int))) = fileK l k := by
  have := stepsL_filter l k 0
  simpa [fileK] using this
theorem stepsL_neg (l : List File) {k : Int} (h : k < 0) : (stepsL 0 l).filter (fun s => decide (s.file = k)) = [] := by
  rw [List.filter_eq_nil_iff]
  intro s hs
  obtain ⟨i, g, -, h2, -⟩ := stepsL_mem hs
  simp [h2]
  omega
theorem fileK_srt {l : List File} (hs : ∀ f, f ∈ l → f.acts.Pairwise fun a b => a.booked ≤ b.booked) (k : Nat) : Srt ltT (fileK l k) := by
  unfold fileK Srt
  cases h : l[k]? with
  | none => exact .nil
  | some f =>
    simp only
    rw [List.pairwise_map]
    refine (hs f (List.mem_of_getElem? h)).imp fun {a b} hab => ?_
    simp only [ltT, Bool.or_eq_false_iff, Bool.and_eq_false_iff, decide_eq_false_iff_not]
    omega
theorem ordL_fileK {l : List File} (hs : ∀ f, f ∈ l → f.acts.Pairwise fun a b => a.booked ≤ b.booked) (k : Nat) : (ordL l).filter (fun s => decide (s.file = (k : Int))) = fileK l k := by
  unfold ordL
  rw [isort_filter sw_ltT, stepsL_fileK, isort_id sw_ltT (fileK_srt hs k)]
theorem ordL_srt (l : List File) : Srt ltT (ordL l) := isort_srt sw_ltT _
theorem ordL_mem {l : List File} {s : Stp} : s ∈ ordL l ↔ s ∈ stepsL 0 l := isort_mem
theorem ordL_len (l : List File) : (ordL l).length = actsN l := by rw [ordL, isort_len, stepsL_len]
/-- What is sorted, and has of each file its acts, is the order. -/
theorem ordL_eq {l : List File} (hs : ∀ f, f ∈ l → f.acts.Pairwise fun a b => a.booked ≤ b.booked) {E : List Stp} (sE : Srt ltT E) (hn : ∀ s, s ∈ E → 0 ≤ s.file) (hE : ∀ k : Nat, E.filter (fun s => decide (s.file = (k : Int))) = fileK l k) : E = ordL l := by
  refine srt_unique sE (ordL_srt l) fun k => ?_
  by_cases hk : 0 ≤ k
  · obtain ⟨n, rfl⟩ : ∃ n : Nat, k = n := ⟨k.toNat, by omega⟩
    rw [hE, ordL_fileK hs]
  · have h1 : E.filter (fun s => decide (s.file = k)) = [] := by
      rw [List.filter_eq_nil_iff]
      intro s hs'
      have := hn s hs'
      simp
      omega
    have h2 : (ordL l).filter (fun s => decide (s.file = k)) = [] := by
      unfold ordL
      rw [isort_filter sw_ltT, stepsL_neg l (by omega)]
      rfl
    rw [h1, h2]
/-- The days rise. -/
theorem srt_booked {E : List Stp} (h : Srt ltT E) : E.Pairwise fun a b => a.act.booked ≤ b.act.booked := by
  refine h.imp fun {a b} hab => ?_
  simp only [ltT, Bool.or_eq_false_iff, Bool.and_eq_false_iff, decide_eq_false_iff_not] at hab
  omega
/-- What is booked up to a day is a beginning. -/
theorem booked_cut (d : Int) : ∀ {E : List Stp}, E.Pairwise (fun a b => a.act.booked ≤ b.act.booked) → ∃ F, E = E.filter (fun s => decide (s.act.booked ≤ d)) ++ F ∧ ∀ s, s ∈ F → d < s.act.booked
  | [], _ => ⟨[], rfl, by simp⟩
  | x :: E, h => by
    have h2 := List.pairwise_cons.1 h
    by_cases hx : x.act.booked ≤ d
    · obtain ⟨F, h3, h4⟩ := booked_cut d h2.2
      refine ⟨F, ?_, h4⟩
      rw [List.filter_cons_of_pos (by simpa using hx), List.cons_append, ← h3]
    · refine ⟨x :: E, ?_, fun s hs => ?_⟩
      · have : (x :: E).filter (fun s => decide (s.act.booked ≤ d)) = [] := by
          rw [List.filter_eq_nil_iff]
          intro s hs
          rcases List.mem_cons.1 hs with rfl | hs
          · simpa using hx
          · have := h2.1 s hs; simp; omega
        rw [this]; rfl
      · rcases List.mem_cons.1 hs with rfl | hs
        · omega
        · have := h2.1 s hs; omega
/-- What may be said of what is paid behind m acts. -/
structure PB (c : Cover) (n m : Nat) (s : PS) : Prop where
  l1 : s.shown.length = n
  l2 : s.paid.length = n
  sh : ∀ x, x ∈ s.shown → 0 ≤ x ∧ x ≤ m * 1000000000000000
  pd : ∀ x, x ∈ s.paid → 0 ≤ x ∧ x ≤ 1000000000000000
  al : 0 ≤ s.all ∧ s.all ≤ c.agg
  ou : s.out.length ≤ m
theorem getD_mem {l : List Int} {P : Int → Prop} (h0 : P 0) (h : ∀ x, x ∈ l → P x) (k : Nat) : P (l.getD k 0) := by
  rw [List.getD_eq_getElem?_getD]
  rcases hq : l[k]? with _ | x
  · simpa using h0
  · simpa using h x (List.mem_of_getElem? hq)
theorem PB.get1 {c : Cover} {n m : Nat} {s : PS} (h : PB c n m s) (k : Nat) : 0 ≤ s.shown.getD k 0 ∧ s.shown.getD k 0 ≤ m * 1000000000000000 := getD_mem (P := fun x => 0 ≤ x ∧ x ≤ m * 1000000000000000) (by omega) h.sh k
theorem PB.get2 {c : Cover} {n m : Nat} {s : PS} (h : PB c n m s) (k : Nat) : 0 ≤ s.paid.getD k 0 ∧ s.paid.getD k 0 ≤ 1000000000000000 := getD_mem (P := fun x => 0 ≤ x ∧ x ≤ 1000000000000000) (by omega) h.pd k
theorem PB.zero {c : Cover} (hr : c.rightB = true) (n : Nat) : PB c n 0 (ps0 n) := by
  have hc := cvRight_iff.1 hr
  refine ⟨by simp [ps0], by simp [ps0], fun x hx => ?_, fun x hx => ?_, ⟨Int.le_refl _, ?_⟩, by simp [ps0]⟩
  · have := List.eq_of_mem_replicate hx; omega
  · have := List.eq_of_mem_replicate hx; omega
  · show 0 ≤ c.agg
    omega
theorem PB.step {c : Cover} {n m : Nat} {s : PS} (hr : c.rightB = true) (h : PB c n m s) (x : Stp) (hx : 0 ≤ x.act.amt ∧ x.act.amt ≤ 1000000000000000) : PB c n (m + 1) (payOne c s x) := by
  have hc := cvRight_iff.1 hr
  have g1 := h.get1 x.file.toNat
  have g2 := h.get2 x.file.toNat
  have ha := h.al
  have hb := pays_bd (c := c) hr (s.shown.getD x.file.toNat 0 + x.act.amt) (used := s.all - s.paid.getD x.file.toNat 0) (by omega)
  have hw := worth0_bd (c := c) hr (s.shown.getD x.file.toNat 0 + x.act.amt)
  have ho := h.ou
  have hsh : ∀ y, y ∈ s.shown.set x.file.toNat (s.shown.getD x.file.toNat 0 + x.act.amt) → 0 ≤ y ∧ y ≤ ((m + 1 : Nat) : Int) * 1000000000000000 := by
    intro y hy
    rcases List.mem_or_eq_of_mem_set hy with hy | rfl
    · have := h.sh y hy; omega
    · omega
  unfold payOne
  simp only
  split
  · split
    · exact ⟨by simp [h.l1], h.l2, hsh, h.pd, h.al, by simp only; omega⟩
    · refine ⟨by simp [h.l1], by simp [h.l2], hsh, fun y hy => ?_, by simp only; omega, by simp; omega⟩
      rcases List.mem_or_eq_of_mem_set hy with hy | rfl
      · exact h.pd y hy
      · omega
  · refine ⟨h.l1, h.l2, fun y hy => ?_, h.pd, h.al, by omega⟩
    have := h.sh y hy
    omega
theorem payL_take {c : Cover} {n : Nat} {L : List Stp} {i : Nat} {x : Stp} (h : L[i]? = some x) : payL c n (L.take (i + 1)) = payOne c (payL c n (L.take i)) x := by
  rw [List.take_add_one, h]
  exact payL_snoc c n _ x
theorem payL_PB {c : Cover} (hr : c.rightB = true) (n : Nat) {L : List Stp} (hL : ∀ x, x ∈ L → 0 ≤ x.act.amt ∧ x.act.amt ≤ 1000000000000000) : ∀ i, i ≤ L.length → PB c n i (payL c n (L.take i)) := by
  intro i
  induction i with
  | zero => intro _; exact PB.zero hr n
  | succ i ih =>
    intro hi
    have e0 : L[i]? = some L[i] := List.getElem?_eq_getElem hi
    rw [payL_take e0]
    exact (ih (by omega)).step hr _ (hL _ (List.getElem_mem hi))
/-- The acts of right files. -/
theorem step_right {c : Cover} {l : List File} (h : adjRight c l = true) {x : Stp} (hx : x ∈ ordL l) : ∃ k : Nat, k < l.length ∧ x.file = (k : Int) ∧ x.act.rightB = true ∧ 0 ≤ x.act.amt ∧ x.act.amt ≤ 1000000000000000 := by
  obtain ⟨i, f, h1, h2, h3⟩ := stepsL_mem (ordL_mem.1 hx)
  have hi := (List.getElem?_eq_some_iff.1 h1).1
  rw [adjRight, Bool.and_eq_true, List.all_eq_true] at h
  have hf := h.2 f (List.mem_of_getElem? h1)
  rw [okFile, Bool.and_eq_true] at hf
  have ha := (made_good hf.2).right _ h3
  have ha2 := Act.right_iff.1 ha
  have hk : (if x.act.kind = 4 ∨ x.act.kind = 5 then (0 : Int) else 1000000000000000) ≤ 1000000000000000 := by split <;> omega
  exact ⟨i, hi, by simpa using h2, ha, by omega, by omega⟩
end Go.Proofs.YtjplhfmakghabaaGreat.V
set_option linter.unusedSimpArgs false
set_option linter.unusedVariables false
namespace Go.Proofs.YtjplhfmakghabaaGreat.V
open Go.RowKit
set_option maxRecDepth 100000

theorem swapRange_fT (l : List Stp) (a b n : Nat) (ha : a + n ≤ l.length) (hb : b + n ≤ l.length) (hl : l.length ≤ 100000) (hne : l ≠ []) : FunB Tryz.prog 101 [(0, ⟨81, rowC trow l⟩)] [.osl 0 4 0 l.length, int a, int b, int n, .v (.func (.func 44) #[] #[])] (.tup []) [(0, some ⟨81, rowC trow (swapR l a b n)⟩)] := by
  have hne2 := rowT_ne hne
  refine fun_WB 1 mixed Tryz.func101 rfl (Nat.le_of_ble_eq_true rfl) (by kernel_rfl) (by simp [go_sem, hne2, rowT_nms']) fun cx hN hR hF hL => ?_; apply args_kb; (case hA => (simp only [go_sem, ↓reduceIte]; rfl)); (case hB => (simp only [go_sem, ↓reduceIte]; rfl))
  have hF2 : ∀ b g, cx.F b = some g → b < 3000 := fun b g h => by
    have := hF b g h
    simp [inl] at this
    omega
  (try ((try (revert K;refine bK ?_));refine' run trivial ?_;(repeat' first|exact True.intro|refine Lv.mk ?_ ?_|(refine oK ?_;intro K hK)|intro hq);all_goals refine Lf.mk ?_))
  refine loopW mixed (σ := {i : Nat // i ≤ n}) (fun s => ⟨[(10, int s.1), (0, .osl 0 4 0 l.length), (1, int a), (2, int b), (3, int n)], [(0, some ⟨81, rowC trow (swapR l a b s.1)⟩)], 3000⟩) (fun s => n - s.1) id ⟨0, by omega⟩ (by rw [hN]; kernel_rfl) ?_ ?_
  · simp only [go_sem, ↓reduceIte, hF]
    exact ⟨rfl, rfl, hF2⟩
  · rintro ⟨i, h1⟩
    by_cases hi : i < n
    · have e2 : IntKind.i64.wrap ((i : Int) + 1) = ((i + 1 : Nat) : Int) := by rw [wrap_id] <;> omega
      have w1 : IntKind.i64.wrap ((a : Int) + i) = ((a + i : Nat) : Int) := by rw [wrap_id] <;> omega
      have w2 : IntKind.i64.wrap ((b : Int) + i) = ((b + i : Nat) : Int) := by rw [wrap_id] <;> omega
      have hL1 : a + i < (swapR l a b i).length := by rw [swapR_len]; omega
      have hL2 : b + i < (swapR l a b i).length := by rw [swapR_len]; omega
      have hx : (swapR l a b i)[a + i]? = some (swapR l a b i)[a + i] := List.getElem?_eq_getElem hL1
      have hy : (swapR l a b i)[b + i]? = some (swapR l a b i)[b + i] := List.getElem?_eq_getElem hL2
      generalize (swapR l a b i)[a + i] = x at hx
      generalize (swapR l a b i)[b + i] = y at hy
      have hsw : swapR l a b (i + 1) = ((swapR l a b i).set (a + i) y).set (b + i) x := by
        rw [swapR, swp]
        simp only [hx, hy]
      have r1 := rowT_some hx
      have r2 := rowT_some hy
      have s1 := rowT_put (swapR l a b i) (a + i) y hL1
      have s2 := rowT_put ((swapR l a b i).set (a + i) y) (b + i) x (by rw [List.length_set]; exact hL2)
      rw [← hsw] at s2
      have hn1 : (rowC trow (swapR l a b i)).length = l.length * 4 := by rw [rowT_len, swapR_len]
      have hn2 : (rowC trow ((swapR l a b i).set (a + i) y)).length = l.length * 4 := by rw [rowT_len, List.length_set, swapR_len]
      have hz : ¬ rowC trow (swapR l a b i) = [] := by
        intro e
        have := congrArg List.length e
        rw [hn1] at this
        simp at this
        omega
      have b1 : a + i < l.length := by omega
      have b2 : b + i < l.length := by omega
      have hl0 : 0 < l.length := by omega
      (try ((try (revert K;refine bK ?_));refine' run (I e2 (I w1 (I w2 (I r1 (I r2 (I s1 (I s2 (I hn1 (I hn2 (I b1 b2)))))))))) ?_;(repeat' first|exact True.intro|refine Lv.mk ?_ ?_|(refine oK ?_;intro K hK)|intro hq);all_goals refine Lf.mk ?_))
      · refine ⟨⟨i + 1, by omega⟩, id, ?_, by show n - (i + 1) < n - i; omega⟩
        simp only [go_sem, ↓reduceIte, hF]
        exact hF2
      all_goals (first | omega | exact hz)
    · have : i = n := by omega
      subst this
      (try ((try (revert K;refine bK ?_));refine' run trivial ?_;(repeat' first|exact True.intro|refine Lv.mk ?_ ?_|(refine oK ?_;intro K hK)|intro hq);all_goals refine Lf.mk ?_))

theorem rotate_fT (X U V Y : List Stp) (m : Nat) (hm : m = X.length + U.length) (hU : 0 < U.length) (hV : 0 < V.length) (hl : (X ++ (U ++ (V ++ Y))).length ≤ 100000) :
    FunB Tryz.prog 96 [(0, ⟨81, rowC trow (X ++ (U ++ (V ++ Y)))⟩)] [.osl 0 4 0 (X ++ (U ++ (V ++ Y))).length, int X.length, int m, int (m + V.length : Nat), .v (.func (.func 44) #[] #[])] (.tup []) [(0, some ⟨81, rowC trow (X ++ (V ++ (U ++ Y)))⟩)] := by
  have hne2 := rowT_nz (l := X ++ (U ++ (V ++ Y))) (by simp; omega)
  generalize hLL : X ++ (U ++ (V ++ Y)) = l at *
  have hlen : X.length + U.length + V.length + Y.length = l.length := by rw [← hLL]; simp; omega
  have w1 : IntKind.i64.wrap ((m : Int) - X.length) = (U.length : Nat) := by rw [wrap_id] <;> omega
  have w2 : IntKind.i64.wrap (((m + V.length : Nat) : Int) - m) = (V.length : Nat) := by rw [wrap_id] <;> omega
  refine fun_WB 1 mixed Tryz.func96 rfl (Nat.le_of_ble_eq_true rfl) (by kernel_rfl) (by simp [go_sem, hne2, rowT_nms']) fun cx hN hR hF hL => ?_; apply args_kb; (case hA => (simp only [go_sem, ↓reduceIte]; rfl)); (case hB => (simp only [go_sem, ↓reduceIte]; rfl))
  have hF2 : ∀ b g, cx.F b = some g → b < 3000 := fun b g h => by
    have := hF b g h
    simp [inl] at this
    omega
  (try ((try (revert K;refine bK ?_));refine' run (I w1 w2) ?_;(repeat' first|exact True.intro|refine Lv.mk ?_ ?_|(refine oK ?_;intro K hK)|intro hq);all_goals refine Lf.mk ?_))
  refine loopW mixed (σ := {p : List Stp × List Stp × List Stp × List Stp // p.1.length + p.2.1.length = m ∧ (p.1 ++ (p.2.1 ++ (p.2.2.1 ++ p.2.2.2))).length = l.length ∧ 0 < p.2.1.length ∧ 0 < p.2.2.1.length ∧ p.1 ++ (p.2.2.1 ++ (p.2.1 ++ p.2.2.2)) = X ++ (V ++ (U ++ Y))})
    (fun s => ⟨[(10, int s.1.2.1.length), (11, int s.1.2.2.1.length), (0, .osl 0 4 0 l.length), (2, int m), (4, .v (.func (.func 44) #[] #[]))], [(0, some ⟨81, rowC trow (s.1.1 ++ (s.1.2.1 ++ (s.1.2.2.1 ++ s.1.2.2.2)))⟩)], 3000⟩) (fun s => s.1.2.1.length + s.1.2.2.1.length) id ⟨(X, U, V, Y), hm.symm, by rw [hLL], hU, hV, rfl⟩ (by rw [hN]; kernel_rfl) ?_ ?_
  · simp only [go_sem, ↓reduceIte, hF]
    rw [hLL]
    exact ⟨rfl, hF2⟩
  · rintro ⟨⟨X', U', V', Y'⟩, g1, g2, g3, g4, g5⟩
    simp only at g1 g2 g3 g4 g5
    simp only [List.length_append] at g2
    by_cases hi : U'.length = V'.length
    · have w3 : IntKind.i64.wrap ((m : Int) - U'.length) = (X'.length : Nat) := by rw [wrap_id] <;> omega
      have c1 := swapRange_fT (X' ++ (U' ++ (V' ++ Y'))) X'.length m U'.length (by simp only [List.length_append]; omega) (by simp only [List.length_append]; omega) (by simp only [List.length_append]; omega) (by intro e; have := congrArg List.length e; simp only [List.length_append, List.length_nil] at this; omega)
      rw [swapR_seg _ _ _ _ X' U' [] V' Y' (by simp) rfl hi.symm rfl (by simp only [List.length_nil]; omega), List.nil_append, g5] at c1
      have ll : (X' ++ (U' ++ (V' ++ Y'))).length = l.length := by simp; omega
      rw [ll] at c1
      (try ((try (revert K;refine bK ?_));refine' run (I w3 (eq_true hi)) ?_;(repeat' first|exact True.intro|refine Lv.mk ?_ ?_|(refine oK ?_;intro K hK)|intro hq);all_goals refine Lf.mk ?_))
      (apply callB' [0] cl101 (c1); (case h1 | h2 | h3 => (simp only [go_sem, ↓reduceIte]; try rfl)); (case hl | hs | hfp | hfr => (simp [go_sem]; done)))
      (try ((try (revert K;refine bK ?_));refine' run trivial ?_;(repeat' first|exact True.intro|refine Lv.mk ?_ ?_|(refine oK ?_;intro K hK)|intro hq);all_goals refine Lf.mk ?_))
    · by_cases hj : V'.length < U'.length
      · obtain ⟨U1, U2, he, hu1⟩ : ∃ U1 U2, U' = U1 ++ U2 ∧ U1.length = V'.length := ⟨U'.take V'.length, U'.drop V'.length, by simp, by simp; omega⟩
        have hel : U'.length = U1.length + U2.length := by rw [he, List.length_append]
        have w3 : IntKind.i64.wrap ((m : Int) - U'.length) = (X'.length : Nat) := by rw [wrap_id] <;> omega
        have w4 : IntKind.i64.wrap ((U'.length : Int) - V'.length) = (U2.length : Nat) := by rw [wrap_id] <;> omega
        have c1 := swapRange_fT (X' ++ (U' ++ (V' ++ Y'))) X'.length m V'.length (by simp only [List.length_append]; omega) (by simp only [List.length_append]; omega) (by simp only [List.length_append]; omega) (by intro e; have := congrArg List.length e; simp only [List.length_append, List.length_nil] at this; omega)
        rw [swapR_seg _ _ _ _ X' U1 U2 V' Y' (by rw [he]; simp) hu1 rfl rfl (by omega)] at c1
        have ll : (X' ++ (U' ++ (V' ++ Y'))).length = l.length := by simp only [List.length_append]; omega
        rw [ll] at c1
        (try ((try (revert K;refine bK ?_));refine' run (I w3 (I w4 (I (eq_false hi) (eq_true hj)))) ?_;(repeat' first|exact True.intro|refine Lv.mk ?_ ?_|(refine oK ?_;intro K hK)|intro hq);all_goals refine Lf.mk ?_))
        (apply callB' [0] cl101 (c1); (case h1 | h2 | h3 => (simp only [go_sem, ↓reduceIte]; try rfl)); (case hl | hs | hfp | hfr => (simp [go_sem]; done)))
        (try ((try (revert K;refine bK ?_));refine' run w4 ?_;(repeat' first|exact True.intro|refine Lv.mk ?_ ?_|(refine oK ?_;intro K hK)|intro hq);all_goals refine Lf.mk ?_))
        refine ⟨⟨(X' ++ V', U2, U1, Y'), by simp only [List.length_append]; omega, by simp only [List.length_append]; omega, by simp only; omega, by simp only; omega, by rw [← g5, he]; simp⟩, id, ?_, by simp only; omega⟩
        simp only [go_sem, ↓reduceIte, hF, hu1, List.append_assoc]
        exact hF2
      · obtain ⟨V1, V2, he, hv2⟩ : ∃ V1 V2, V' = V1 ++ V2 ∧ V2.length = U'.length := ⟨V'.take (V'.length - U'.length), V'.drop (V'.length - U'.length), by simp, by simp; omega⟩
        have hel : V'.length = V1.length + V2.length := by rw [he, List.length_append]
        have w3 : IntKind.i64.wrap ((m : Int) - U'.length) = (X'.length : Nat) := by rw [wrap_id] <;> omega
        have w4 : IntKind.i64.wrap ((V'.length : Int) - U'.length) = (V1.length : Nat) := by rw [wrap_id] <;> omega
        have w5 : IntKind.i64.wrap ((m : Int) + V'.length) = ((m + V'.length : Nat) : Int) := by rw [wrap_id] <;> omega
        have w6 : IntKind.i64.wrap (((m + V'.length : Nat) : Int) - U'.length) = ((m + V1.length : Nat) : Int) := by rw [wrap_id] <;> omega
        have c1 := swapRange_fT (X' ++ (U' ++ (V' ++ Y'))) X'.length (m + V1.length) U'.length (by simp only [List.length_append]; omega) (by simp only [List.length_append]; omega) (by simp only [List.length_append]; omega) (by intro e; have := congrArg List.length e; simp only [List.length_append, List.length_nil] at this; omega)
        rw [swapR_seg _ _ _ _ X' U' V1 V2 Y' (by rw [he]; simp) rfl hv2 rfl (by omega)] at c1
        have ll : (X' ++ (U' ++ (V' ++ Y'))).length = l.length := by simp only [List.length_append]; omega
        rw [ll] at c1
        (try ((try (revert K;refine bK ?_));refine' run (I w3 (I w4 (I w5 (I w6 (I (eq_false hi) (eq_false hj)))))) ?_;(repeat' first|exact True.intro|refine Lv.mk ?_ ?_|(refine oK ?_;intro K hK)|intro hq);all_goals refine Lf.mk ?_))
        (apply callB' [0] cl101 (c1); (case h1 | h2 | h3 => (simp only [go_sem, ↓reduceIte]; try rfl)); (case hl | hs | hfp | hfr => (simp [go_sem]; done)))
        (try ((try (revert K;refine bK ?_));refine' run w4 ?_;(repeat' first|exact True.intro|refine Lv.mk ?_ ?_|(refine oK ?_;intro K hK)|intro hq);all_goals refine Lf.mk ?_))
        refine ⟨⟨(X', V2, V1, U' ++ Y'), by simp only; omega, by simp only [List.length_append]; omega, by simp only; omega, by simp only; omega, by rw [← g5, he]; simp⟩, id, ?_, by simp only; omega⟩
        simp only [go_sem, ↓reduceIte, hF, hv2, List.append_assoc]
        exact hF2
end Go.Proofs.YtjplhfmakghabaaGreat.V
set_option linter.unusedSimpArgs false
set_option linter.unusedVariables false
namespace Go.Proofs.YtjplhfmakghabaaGreat.V
open Go.RowKit
set_option maxRecDepth 100000

theorem insertion_fT (X S Y : List Stp) (hl : (X ++ (S ++ Y)).length ≤ 100000) (h0 : 0 < (X ++ (S ++ Y)).length) (hS : ∀ x, x ∈ S → True) :
    FunB Tryz.prog 88 [(0, ⟨81, rowC trow (X ++ (S ++ Y))⟩)] [.osl 0 4 0 (X ++ (S ++ Y)).length, int X.length, int (X.length + S.length : Nat), .v (.func (.func 44) #[] #[])] (.tup []) [(0, some ⟨81, rowC trow (X ++ (isort (ltT) S ++ Y))⟩)] := by
  have hne2 := rowT_nz h0
  have hlen : (X ++ (S ++ Y)).length = X.length + S.length + Y.length := by simp; omega
  rw [hlen] at hl
  generalize hn : (X ++ (S ++ Y)).length = n at *
  generalize ha : X.length = a at *
  have hsl : (isort (ltT) S).length = S.length := isort_len _ _
  refine fun_WB 1 mixed Tryz.func88 rfl (Nat.le_of_ble_eq_true rfl) (by kernel_rfl) (by simp [go_sem, hne2, rowT_nms']) fun cx hN hR hF hL => ?_; apply args_kb; (case hA => (simp only [go_sem, ↓reduceIte]; rfl)); (case hB => (simp only [go_sem, ↓reduceIte]; rfl))
  have hF2 : ∀ b g, cx.F b = some g → b < 3000 := fun b g h => by
    have := hF b g h
    simp [inl] at this
    omega
  have w1 : IntKind.i64.wrap ((a : Int) + 1) = ((a + 1 : Nat) : Int) := by rw [wrap_id] <;> omega
  (try ((try (revert K;refine bK ?_));refine' run w1 ?_;(repeat' first|exact True.intro|refine Lv.mk ?_ ?_|(refine oK ?_;intro K hK)|intro hq);all_goals refine Lf.mk ?_))
  refine loopW mixed (σ := {i : Nat // i ≤ S.length ∨ i = 1}) (fun s => ⟨[(8, int (a + s.1 : Nat)), (0, .osl 0 4 0 n), (1, int a), (2, int (a + S.length : Nat)), (3, .v (.func (.func 44) #[] #[]))], [(0, some ⟨81, rowC trow (X ++ (isort (ltT) (S.take s.1) ++ (S.drop s.1 ++ Y)))⟩)], 3000⟩) (fun s => S.length - s.1) id ⟨1, .inr rfl⟩ (by rw [hN]; kernel_rfl) ?_ ?_
  · simp only [go_sem, ↓reduceIte, hF]
    refine ⟨?_, hF2⟩
    rcases S with _ | ⟨s, S⟩
    · rfl
    · simp [isort, isortR, insR]
  · rintro ⟨i, g1⟩
    by_cases hi : i < S.length
    · have c1 : decide (((a + i : Nat) : Int) < ((a + S.length : Nat) : Int)) = true := by simp; omega
      (try ((try (revert K;refine bK ?_));refine' run c1 ?_;(repeat' first|exact True.intro|refine Lv.mk ?_ ?_|(refine oK ?_;intro K hK)|intro hq);all_goals refine Lf.mk ?_))
      have hd : S.drop i = S[i] :: S.drop (i + 1) := List.drop_eq_getElem_cons hi
      have hx : True := hS _ (List.getElem_mem hi)
      have htk : S.take (i + 1) = S.take i ++ [S[i]] := List.take_succ_eq_append_getElem hi
      have hacc : (isort (ltT) (S.take i)).length = i := by rw [isort_len, List.length_take]; omega
      have hmem : ∀ y, y ∈ isort (ltT) (S.take i) → True := fun y hy => hS y (List.mem_of_mem_take (isort_mem.1 hy))
      generalize S[i] = x at *
      generalize hR : S.drop (i + 1) ++ Y = R at *
      refine loopW mixed (σ := {p : List Stp × List Stp // p.1 ++ p.2 = isort (ltT) (S.take i) ∧ ∀ q, q ∈ p.2 → ltT x q = true}) (fun s => ⟨[(9, int (a + s.1.1.length : Nat)), (8, int (a + i : Nat)), (0, .osl 0 4 0 n), (1, int a), (2, int (a + S.length : Nat)), (3, .v (.func (.func 44) #[] #[]))], [(0, some ⟨81, rowC trow (X ++ (s.1.1 ++ (x :: (s.1.2 ++ R))))⟩)], 6000⟩) (fun s => s.1.1.length) id ⟨(isort (ltT) (S.take i), []), by simp, by simp⟩ (by rw [hN]; kernel_rfl) ?_ ?_
      · simp only [go_sem, ↓reduceIte, hF]
        rw [hacc, hd, ← hR]
        exact ⟨rfl, rfl, fun b g h => by have := hF2 b g h; omega⟩
      · rintro ⟨⟨P, Q⟩, g2, g3⟩
        simp only at g2 g3
        have g4 : P.length + Q.length = i := by rw [← hacc, ← g2, List.length_append]
        have hRl : R.length + i + 1 = S.length + Y.length := by rw [← hR, List.length_append, List.length_drop]; omega
        have e2 : IntKind.i64.wrap (((a + i : Nat) : Int) + 1) = ((a + (i + 1) : Nat) : Int) := by rw [wrap_id] <;> omega
        rcases List.eq_nil_or_concat P with hP | ⟨P', p, hP⟩
        · have c2 : decide ((a : Int) < ((a + P.length : Nat) : Int)) = false := by rw [hP]; simp
          (try ((try (revert K;refine bK ?_));refine' run (I c2 e2) ?_;(repeat' first|exact True.intro|refine Lv.mk ?_ ?_|(refine oK ?_;intro K hK)|intro hq);all_goals refine Lf.mk ?_))
          refine ⟨⟨i + 1, .inl hi⟩, id, ?_, by show S.length - (i + 1) < S.length - i; omega⟩
          have hs := isort_snoc g2 g3 (by rw [hP]; simp)
          rw [← htk] at hs
          simp only [go_sem, ↓reduceIte, hF, hs, hR]
          refine ⟨?_, hF2⟩
          simp
        · rw [List.concat_eq_append] at hP
          have hPl : P.length = P'.length + 1 := by rw [hP]; simp
          have hpm : True := hmem p (by rw [← g2, hP]; simp)
          have c2 : decide ((a : Int) < ((a + P.length : Nat) : Int)) = true := by simp; omega
          have w2 : IntKind.i64.wrap (((a + P.length : Nat) : Int) - 1) = ((a + P'.length : Nat) : Int) := by rw [wrap_id] <;> omega
          have hLe : X ++ (P ++ x :: (Q ++ R)) = (X ++ P') ++ p :: x :: (Q ++ R) := by rw [hP]; simp
          have hLx : (X ++ (P ++ x :: (Q ++ R)))[a + P.length]? = some x := by
            rw [← List.append_assoc]; exact at_mid _ _ _ _ (by rw [List.length_append, ha])
          have hLp : (X ++ (P ++ x :: (Q ++ R)))[a + P'.length]? = some p := by
            rw [hLe]; exact at_mid _ _ _ _ (by rw [List.length_append, ha])
          have hLn : (X ++ (P ++ x :: (Q ++ R))).length = n := by
            simp only [List.length_append, List.length_cons]; omega
          have hst := set_pair (X ++ P') (Q ++ R) p x (a + P.length) (a + P'.length) (by rw [List.length_append]; omega) (by rw [List.length_append]; omega)
          rw [← hLe] at hst
          have hz := rowT_nz (l := X ++ (P ++ x :: (Q ++ R))) (by omega)
          have b1 : a + P.length < n := by omega
          have b2 : a + P'.length < n := by omega
          generalize X ++ (P ++ x :: (Q ++ R)) = L at *
          have r1 := rowT_some hLx
          have r2 := rowT_some hLp
          have hn1 : (rowC trow L).length = n * 4 := by rw [rowT_len, hLn]
          have hn2 : (rowC trow (L.set (a + P.length) p)).length = n * 4 := by rw [rowT_len, List.length_set, hLn]
          have s1 := rowT_put L (a + P.length) p (by omega)
          have s2 := rowT_put (L.set (a + P.length) p) (a + P'.length) x (by rw [List.length_set]; omega)
          rw [hst] at s2
          cases hlt : ltT x p
          · have d1 : decide (aheadT x p < 0) = false := by rw [ahead_lt]; exact hlt
            (try ((try (revert K;refine bK ?_));refine' run (I c2 (I e2 (I w2 (I r1 (I r2 (I hn1 (I hz (I b1 b2)))))))) ?_;(repeat' first|exact True.intro|refine Lv.mk ?_ ?_|(refine oK ?_;intro K hK)|intro hq);all_goals refine Lf.mk ?_))
            · (refine callW cl44 (aheadT_f x p) (by simp) ?_)
              (try ((try (revert K;refine bK ?_));refine' run (I c2 (I e2 (I w2 (I r1 (I r2 (I hn1 (I hz (I d1 (I b1 b2))))))))) ?_;(repeat' first|exact True.intro|refine Lv.mk ?_ ?_|(refine oK ?_;intro K hK)|intro hq);all_goals refine Lf.mk ?_))
              refine ⟨⟨i + 1, .inl hi⟩, id, ?_, by show S.length - (i + 1) < S.length - i; omega⟩
              have hs := isort_snoc g2 g3 (by
                rw [hP]
                intro z hz
                simp at hz
                subst hz
                exact hlt)
              rw [← htk] at hs
              simp only [go_sem, ↓reduceIte, hF, hs, hR]
              refine ⟨?_, hF2⟩
              rw [hLe, hP]
              simp
          · have d1 : decide (aheadT x p < 0) = true := by rw [ahead_lt]; exact hlt
            (try ((try (revert K;refine bK ?_));refine' run (I c2 (I e2 (I w2 (I r1 (I r2 (I hn1 (I hz (I b1 b2)))))))) ?_;(repeat' first|exact True.intro|refine Lv.mk ?_ ?_|(refine oK ?_;intro K hK)|intro hq);all_goals refine Lf.mk ?_))
            · (refine callW cl44 (aheadT_f x p) (by simp) ?_)
              (try ((try (revert K;refine bK ?_));refine' run (I c2 (I e2 (I w2 (I r1 (I r2 (I hn1 (I hn2 (I hz (I d1 (I s1 (I s2 (I b1 b2)))))))))))) ?_;(repeat' first|exact True.intro|refine Lv.mk ?_ ?_|(refine oK ?_;intro K hK)|intro hq);all_goals refine Lf.mk ?_))
              · refine ⟨⟨(P', p :: Q), by rw [← g2, hP]; simp, by
                  intro q hq
                  rcases List.mem_cons.1 hq with rfl | hq
                  · exact hlt
                  · exact g3 q hq⟩, id, ?_, by show P'.length < P.length; omega⟩
                simp only [go_sem, ↓reduceIte, hF]
                refine ⟨?_, fun b g h => by have := hF2 b g h; omega⟩
                simp
    · have c1 : decide (((a + i : Nat) : Int) < ((a + S.length : Nat) : Int)) = false := by simp; omega
      (try ((try (revert K;refine bK ?_));refine' run c1 ?_;(repeat' first|exact True.intro|refine Lv.mk ?_ ?_|(refine oK ?_;intro K hK)|intro hq);all_goals refine Lf.mk ?_))
      rcases Nat.lt_or_ge S.length i with h1 | h1
      · rw [List.take_of_length_le (by omega), List.drop_eq_nil_of_le (by omega)]; rfl
      · rw [List.take_of_length_le (by omega), List.drop_eq_nil_of_le (by omega)]; rfl
end Go.Proofs.YtjplhfmakghabaaGreat.V
