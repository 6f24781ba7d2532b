/- clear of a slice of the call's own. -/
import Derived.Test.YtjplhfmakghabaaV19
set_option linter.unusedSimpArgs false
set_option linter.unusedVariables false
namespace Go.Proofs.Ytjplhfmakghabaa.V
open Go.RowKit
variable {P : Program} {cx : Cx} {env : Env} {box : Boxes} {n0 i : Nat}

theorem y_clear {o : Oper} {ρ : Operand → AV} {t e : TypeId} {y : Operand} {b k off n : Nat} {z : Value} {bx : Bx} (ho : o.op = .call { callee := .builtin .clear, args := #[y], argTypes := #[t] }) (ht : P.underlying t = some (.slice e)) (hz : ∀ w, (zeroValue e).run P w = .ok z w)
    (hzk : z.cells.size = k) (hk0 : 0 < k) (h1 : z.cells.all (·.oneCell') = true) (hy : ρ y = .osl b k off n) (hn0 : 0 < n) (hle : off + n * k ≤ bx.cs.length) : Yields P cx o ρ ⟨[(b, bx)], .v (.tuple #[]), [(b, some ⟨bx.t, splice bx.cs off (zerosOf z k n)⟩)]⟩ := by
  intro ι box used a w hs _ hfp _ hops K Q hK
  have hb : box b = some bx := hfp b bx (by simp)
  have hnk : 0 < n * k := Nat.mul_pos hn0 hk0
  have hne : bx.cs ≠ [] := by intro h; rw [h] at hle; simp at hle; omega
  obtain ⟨g, hg, hgb, hgM, c, hh, hlen, hcs⟩ := hs.ne hb hne
  obtain ⟨cap, hv⟩ : ∃ cap, a.eval y = .slice (some ⟨g, off, none⟩) n cap := by
    have := hops y (mem_ops ho (by simp [Op.operands, Call.operands]))
    rw [hy] at this
    rcases this.osl' with ⟨g', cap, c', t', hv, hg', -⟩ | ⟨h0, -⟩
    · rw [hg] at hg'
      injection hg' with hg'
      subst hg'
      exact ⟨cap, hv⟩
    · omega
  generalize hxs : (Builtin.zeroCells z.cells n).toList = xs
  have hlx : xs.length = n * k := by rw [← hxs]; simp [Builtin.zeroCells, hzk]
  have hone : ∀ x, x ∈ xs → x.oneCell' = true := by
    intro x hx
    obtain ⟨j, hj⟩ := List.mem_iff_getElem?.1 hx
    rw [← hxs] at hj
    rw [Array.getElem?_toList, Builtin.zeroCells] at hj
    obtain ⟨-, -, e3⟩ := zeros_at z.cells (by omega) (n * z.cells.size) j x hj
    exact (Array.all_eq_true_iff_forall_mem.1 h1) x (by simpa using e3)
  have hrun := run_storeCells_at (P := P) g off bx.t xs 0 c w hh (by rw [hlx]; omega) hone
  generalize hc' : (List.take (off + 0) c.toList ++ xs ++ List.drop (off + 0 + xs.length) c.toList).toArray = c' at hrun
  have hrun2 : (execOp a.eval o).run P w = .ok (.value (.tuple #[])) (w.setRow g c') := by
    obtain ⟨m, rfl⟩ : ∃ m, n = m + 1 := ⟨n - 1, by omega⟩
    simp [execOp, ho, resolve, invoke, builtin, Builtin.clear_, run_underlying ht, hv, hz, hxs, hrun]
  unfold Oper.wp
  rw [hrun2, Oper.upon_value]
  refine hK _ ι _ (step_row hs (bx' := ⟨bx.t, splice bx.cs off (zerosOf z k n)⟩) hb hg hh ?_ ?_ rfl ?_) (.d (.v _))
  · rw [← hc']; simp; omega
  · rw [← hc']; simp [splice, zerosOf]; omega
  · intro j v q hjv hjz
    rw [← hc'] at hjv
    have hlz : (zerosOf z k n).length = n * k := by simp [zerosOf]
    simp only [splice, hlz] at hjz
    simp only [Nat.add_zero, hlx, List.getElem?_toArray] at hjv
    have hto : (c.toList.take off).length = off := by simp; omega
    have htb : (bx.cs.take off).length = off := by simp; omega
    rw [List.append_assoc] at hjv hjz
    by_cases h2 : j < off
    · rw [List.getElem?_append_left (by omega)] at hjv hjz
      rw [List.getElem?_take, if_pos h2] at hjv hjz
      exact hcs j v q (by simpa using hjv) hjz
    · rw [List.getElem?_append_right (by omega), hto] at hjv
      rw [List.getElem?_append_right (by omega), htb] at hjz
      by_cases h3 : j - off < n * k
      · rw [List.getElem?_append_left (by omega)] at hjv
        rw [List.getElem?_append_left (by omega)] at hjz
        rw [← hxs] at hjv
        rw [Array.getElem?_toList, Builtin.zeroCells] at hjv
        obtain ⟨e1, e2, e3⟩ := zeros_at z.cells (by omega) (n * z.cells.size) (j - off) v hjv
        rw [zerosOf, List.getElem?_map, List.getElem?_range h3] at hjz
        simp only [Option.map_some, Option.some.injEq] at hjz
        subst hjz
        rw [hzk] at e2
        exact ⟨(Array.all_eq_true_iff_forall_mem.1 h1) v (by simpa using e3), by rw [e2]; exact .d (.v _)⟩
      · rw [List.getElem?_append_right (by omega), hlx, List.getElem?_drop] at hjv
        rw [List.getElem?_append_right (by omega), hlz, List.getElem?_drop] at hjz
        have e : off + n * k + (j - off - n * k) = j := by omega
        rw [e] at hjv hjz
        exact hcs j v q (by simpa using hjv) hjz

def clrR (P : Program) (env : Env) (box : Boxes) (y : Operand) (t : TypeId) : Option (OpS × Prop) :=
  match (tv P t).map TI.k with
  | some (.slice e) => match tv P e with
    | some j => match seval env y with
      | .osl b k off n => match bget box b with
        | some bx => some (⟨[(b, bx)], .v (.tuple #[]), [(b, some ⟨bx.t, splice bx.cs off (zerosOf j.zero j.size n)⟩)]⟩, cndOK True (oeval env y) ∧ j.zero.cells.size = j.size ∧ 0 < j.size ∧ j.zero.cells.all (·.oneCell') = true ∧ k = j.size ∧ 0 < n ∧ off + n * k ≤ bx.cs.length)
        | none => none
      | _ => none
    | none => none
  | _ => none

variable {ops : Array Oper} {draw : Bool} {rest : List Oper} {u : List Nat} {acc : List (List Nat × List Nat)} {K : Env → Boxes → Prop} {dst : Option Tmp} {ty : TypeId} {pos : String} {after : Array Edge} {S : OpS} {c : Prop}
theorem rs_clr {y : Operand} {t : TypeId} (hy : clrR P env box y t = some (S, c)) (hK : regK P cx ops draw n0 rest i env box u acc K dst S) (hc : c) :
    regW P cx ops draw n0 ({ dst := dst, op := .call ⟨.builtin .clear, #[y], #[t]⟩, type := ty, pos := pos, after := after, guard := none } :: rest) i env box u acc K := by
  unfold clrR at hy
  split at hy
  · rename_i e hi
    simp only [Option.map_eq_some_iff] at hi
    obtain ⟨ti, hi, hk⟩ := hi
    split at hy
    · rename_i j hj
      split at hy
      · rename_i b k off n hs
        split at hy
        · rename_i bx hb
          injection hy with hy
          injection hy with h1 h2
          subst h1 h2
          obtain ⟨c0, c1, c2, c3, rfl, c5, c6⟩ := hc
          have h := y_clear (P := P) (cx := cx) (o := { dst := dst, op := .call ⟨.builtin .clear, #[y], #[t]⟩, type := ty, pos := pos, after := after, guard := none }) (ρ := seval env) rfl (tv_slice hi hk) (tv_zero hj) c1 c2 c3 hs c5 c6
          refine ⟨⟨c0, trivial⟩, ?_⟩
          refine ⟨_, fun _ => h, fun b' x hm => ?_, fun b' x hm => ?_, hK⟩
          · simp only [List.mem_singleton, Prod.mk.injEq] at hm
            obtain ⟨rfl, rfl⟩ := hm
            exact hb
          · simp only [List.mem_singleton, Prod.mk.injEq] at hm
            obtain ⟨rfl, -⟩ := hm
            exact .inl ⟨_, List.mem_singleton.2 rfl⟩
        · cases hy
      · cases hy
    · cases hy
  · cases hy
/-- The same, with marks on what is to be shown beside. -/
theorem Bg {y : Operand} {t : TypeId} (hy : ByE (clrR P env box y t = some (S, c))) (hK : regK P cx ops draw n0 rest i env box u acc K dst S) (hc : c) :
    regW P cx ops draw n0 ({ dst := dst, op := .call ⟨.builtin .clear, #[y], #[t]⟩, type := ty, pos := pos, after := after, guard := none } :: rest) i env box u acc K := rs_clr hy hK hc
attribute [go_sem ↓] clrR
end Go.Proofs.Ytjplhfmakghabaa.V
