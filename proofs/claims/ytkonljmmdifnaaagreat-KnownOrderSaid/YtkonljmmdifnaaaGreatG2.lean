/- More operations: lengths, elements, pieces of slices, parts of values, values made of parts. Structs and slices made of parts; functions as values; append. append, as a step. Contracts of functions over plain data; calls; from a body's rules to its contract. -/
import Derived.Test.YtkonljmmdifnaaaGreatG1
import Derived.ArgAppend
set_option linter.unusedSimpArgs false
set_option linter.unusedVariables false
namespace Go.Proofs.YtkonljmmdifnaaaGreat.V
open Go.RowKit

section
variable {P : Program} {cx : Cx} {ι : Nat → Option Nat} {M : Nat → Prop} {w : World}

theorem RepA.sl' {v : Value} {full : Bool} {k : Nat} {l : List (List AV)} (h : RepA ι M w v (.sl full k l)) : RepD M w v (.sl full k l) := by
  cases h with
  | d h => exact h

theorem RepD.sl_val {v : Value} {full : Bool} {k : Nat} {l : List (List AV)} (h : RepD M w v (.sl full k l)) : ∃ A cap, v = .slice A l.length cap ∧ l.length ≤ cap ∧ cap ≤ maxLen ∧ (full = true → cap = l.length) := by
  cases h with
  | sl b off x hn hc hm hf => subst hn; exact ⟨_, _, rfl, hc, hm, hf⟩

theorem RepA.osl' {v : Value} {b k off n : Nat} (h : RepA ι M w v (.osl b k off n)) :
    (∃ g cap c t, v = .slice (some ⟨g, off, none⟩) n cap ∧ ι b = some g ∧ n ≤ cap ∧ cap ≤ maxLen ∧ w.heap[g]? = some (.cells c t (0, 0)) ∧ off + cap * k = c.size) ∨ (n = 0 ∧ ∃ A, v = .slice A 0 0) := by
  cases h with
  | d h => cases h
  | osl h1 h2 h3 h4 h5 => exact .inl ⟨_, _, _, _, rfl, h1, h2, h3, h4, h5⟩
  | osl0 A => exact .inr ⟨rfl, A, rfl⟩

theorem y_len {o : Oper} {ρ : Operand → AV} {t e : TypeId} {y : Operand} {full : Bool} {k : Nat} {l : List (List AV)} (ho : o.op = .call { callee := .builtin .len, args := #[y], argTypes := #[t] }) (ht : P.underlying t = some (.slice e)) (hy : ρ y = .sl full k l) :
    Yields P cx o ρ ⟨[], int l.length, []⟩ := by
  refine yields_val fun ι M a w _ hops => ?_
  have h1 := hops y (mem_ops ho (by simp [Op.operands, Call.operands]))
  rw [hy] at h1
  obtain ⟨A, cap, hv, -⟩ := h1.sl'.sl_val
  exact ⟨.int .i64 l.length, by simp [execOp, ho, resolve, invoke, builtin, Builtin.len_, run_underlying ht, hv, goInt], .d (.v _)⟩

theorem y_len_osl {o : Oper} {ρ : Operand → AV} {t e : TypeId} {y : Operand} {b k off n : Nat} (ho : o.op = .call { callee := .builtin .len, args := #[y], argTypes := #[t] }) (ht : P.underlying t = some (.slice e)) (hy : ρ y = .osl b k off n) :
    Yields P cx o ρ ⟨[], int n, []⟩ := by
  refine yields_val fun ι M a w _ hops => ?_
  have h1 := hops y (mem_ops ho (by simp [Op.operands, Call.operands]))
  rw [hy] at h1
  have hv : ∃ A cap, a.eval y = .slice A n cap := by
    rcases h1.osl' with ⟨g, cap, c, t, hv, -⟩ | ⟨rfl, A, hv⟩
    · exact ⟨_, _, hv⟩
    · exact ⟨_, _, hv⟩
  obtain ⟨A, cap, hv⟩ := hv
  exact ⟨.int .i64 n, by simp [execOp, ho, resolve, invoke, builtin, Builtin.len_, run_underlying ht, hv, goInt], .d (.v _)⟩

theorem y_len_nil {o : Oper} {ρ : Operand → AV} {t e : TypeId} {y : Operand} {A : Option Addr} {n c : Nat} (ho : o.op = .call { callee := .builtin .len, args := #[y], argTypes := #[t] }) (ht : P.underlying t = some (.slice e)) (hy : ρ y = .v (.slice A n c)) :
    Yields P cx o ρ ⟨[], int n, []⟩ := by
  refine yields_val fun ι M a w _ hops => ?_
  have h1 := hops y (mem_ops ho (by simp [Op.operands, Call.operands]))
  rw [hy] at h1
  exact ⟨.int .i64 n, by simp [execOp, ho, resolve, invoke, builtin, Builtin.len_, run_underlying ht, h1.ofV, goInt], .d (.v _)⟩

theorem RepD.row {A : Option Addr} {n cap k : Nat} {full : Bool} {l : List (List AV)} {i : Nat} {row : List AV} (h : RepD M w (.slice A n cap) (.sl full k l)) (hi : l[i]? = some row) :
    ∃ b off, A = some ⟨b, off, none⟩ ∧ RepA ι M w (.pointer (some ⟨b, off + i * k, none⟩)) (.pp row) := by
  cases h with
  | sl b off x hn hc hm hf hk hA hl hx =>
    have hlt := (List.getElem?_eq_some_iff.1 hi).1
    obtain ⟨h1, h2, h3⟩ := hA (by rintro rfl; simp at hi)
    have hrk : row.length = k := hk row (List.mem_of_getElem? hi)
    exact ⟨b, off, h1, .d (.pp (x i) h2 h3 (fun j hj => hl i j hlt (by omega)) fun j y hy => hx i row j y hi hy)⟩

theorem y_indexAddr {o : Oper} {ρ : Operand → AV} {t e : TypeId} {y z : Operand} {full : Bool} {k : Nat} {l : List (List AV)} {kd : IntKind} {i : Int} {row : List AV} (ho : o.op = .indexAddr t y z) (ht : P.underlying t = some (.slice e)) (hk : ∀ w, (sizeOf e).run P w = .ok k w)
    (hy : ρ y = .sl full k l) (hz : ρ z = .v (.int kd i)) (h0 : 0 ≤ i) (hr : l[i.toNat]? = some row) : Yields P cx o ρ ⟨[], .pp row, []⟩ := by
  refine yields_val fun ι M a w _ hops => ?_
  have h1 := hops y (mem_ops ho (by simp [Op.operands]))
  have h2 := hops z (mem_ops ho (by simp [Op.operands]))
  rw [hy] at h1
  rw [hz] at h2
  obtain ⟨A, cap, hv, hc, hm, -⟩ := h1.sl'.sl_val
  have h3 := h1.sl'
  rw [hv] at h3
  obtain ⟨b, off, rfl, hp⟩ := h3.row (ι := ι) hr
  have hlt := (List.getElem?_eq_some_iff.1 hr).1
  have hil : i < (l.length : Int) := by omega
  exact ⟨_, by simp [execOp, ho, Instr.indexAt, run_underlying ht, hv, h2.ofV, asIntOf, hk, h0, hil, addr_add'], hp⟩

theorem y_indexAddr_osl {o : Oper} {ρ : Operand → AV} {t e : TypeId} {y z : Operand} {b k off n : Nat} {kd : IntKind} {i : Int} (ho : o.op = .indexAddr t y z) (ht : P.underlying t = some (.slice e)) (hk : ∀ w, (sizeOf e).run P w = .ok k w)
    (hy : ρ y = .osl b k off n) (hz : ρ z = .v (.int kd i)) (h0 : 0 ≤ i) (hn : i < n) : Yields P cx o ρ ⟨[], .ptr b (off + i.toNat * k), []⟩ := by
  refine yields_val fun ι M a w _ hops => ?_
  have h1 := hops y (mem_ops ho (by simp [Op.operands]))
  have h2 := hops z (mem_ops ho (by simp [Op.operands]))
  rw [hy] at h1
  rw [hz] at h2
  rcases h1.osl' with ⟨g, cap, c, t', hv, hg, -⟩ | ⟨rfl, A, hv⟩
  · exact ⟨_, by simp [execOp, ho, Instr.indexAt, run_underlying ht, hv, h2.ofV, asIntOf, hk, h0, hn, addr_add'], .ptr hg⟩
  · omega

theorem y_indexAddr_arr {o : Oper} {ρ : Operand → AV} {t e : TypeId} {y z : Operand} {b k off n : Nat} {kd : IntKind} {i : Int} (ho : o.op = .indexAddr t y z) (ht : P.underlying t = some (.array n e)) (hk : ∀ w, (sizeOf e).run P w = .ok k w)
    (hy : ρ y = .ptr b off) (hz : ρ z = .v (.int kd i)) (h0 : 0 ≤ i) (hn : i < n) : Yields P cx o ρ ⟨[], .ptr b (off + i.toNat * k), []⟩ := by
  refine yields_val fun ι M a w _ hops => ?_
  have h1 := hops y (mem_ops ho (by simp [Op.operands]))
  have h2 := hops z (mem_ops ho (by simp [Op.operands]))
  rw [hy] at h1
  rw [hz] at h2
  obtain ⟨g, hg, hv⟩ := h1.ptr'
  exact ⟨_, by simp [execOp, ho, Instr.indexAt, run_underlying ht, hv, h2.ofV, asIntOf, Instr.sureAddr, hk, h0, hn, addr_add'], .ptr hg⟩

theorem RepD.slice_piece {A : Option Addr} {n cap k lo hi m : Nat} {full f' : Bool} {l : List (List AV)} (h : RepD M w (.slice A n cap) (.sl full k l)) (h1 : lo ≤ hi) (h2 : hi ≤ n) (h3 : hi ≤ m) (h4 : m ≤ cap) (hf : f' = true → m = hi) :
    RepD M w (.slice (if m = lo then A else A.map (·.add (lo * k))) (hi - lo) (m - lo)) (.sl f' k ((l.take hi).drop lo)) := by
  cases h with
  | sl b off x hn hc hm hf0 hk hA hl hx =>
    have hlen : ((l.take hi).drop lo).length = hi - lo := by simp; omega
    refine .sl b (off + lo * k) (fun i j => x (lo + i) j) hlen.symm (by omega) (by omega) (fun h => by rw [hf h]) (fun row hrow => hk row ?_) (fun hne => ?_) (fun i j hi' hj => ?_) (fun i row j y hr hy => ?_)
    · exact List.mem_of_mem_take (List.mem_of_mem_drop hrow)
    · have hlt : lo < hi := by
        rcases Nat.lt_or_ge lo hi with h | h
        · exact h
        · exact absurd (List.eq_nil_of_length_eq_zero (by omega)) hne
      obtain ⟨e1, e2, e3⟩ := hA (by rintro rfl; simp at hn; omega)
      rw [if_neg (by omega), e1]
      exact ⟨by simp [addr_add'], e2, e3⟩
    · have := hl (lo + i) j (by omega) hj
      rw [Nat.add_mul, ← Nat.add_assoc] at this
      exact this
    · refine hx (lo + i) row j y ?_ hy
      rw [List.getElem?_drop, List.getElem?_take] at hr
      split at hr
      · exact hr
      · cases hr

theorem run_sliceBounds_n {n cap : Nat} {lo hi mx : Option Value} {a b m : Nat} (hlo : (lo = none ∧ a = 0) ∨ lo = some (.int .i64 (a : Int))) (hhi : (hi = none ∧ b = n ∧ mx = none) ∨ hi = some (.int .i64 (b : Int))) (hmx : (mx = none ∧ m = cap) ∨ mx = some (.int .i64 (m : Int)))
    (h1 : a ≤ b) (h2 : b ≤ m) (h3 : m ≤ cap) : (Instr.sliceBounds true n cap lo hi mx).run P w = .ok (a, b, m) w := by
  have i1 : ((a : Int) ≤ (b : Int)) := by omega
  have i2 : ((b : Int) ≤ (m : Int)) := by omega
  have i3 : ((m : Int) ≤ (cap : Int)) := by omega
  have p1 : (0 : Int) ≤ a := by omega
  have p2 : (0 : Int) ≤ b := by omega
  have p3 : (0 : Int) ≤ m := by omega
  rcases hmx with ⟨rfl, rfl⟩ | rfl
  · rcases hhi with ⟨rfl, rfl, -⟩ | rfl <;> rcases hlo with ⟨rfl, rfl⟩ | rfl <;> simp [Instr.sliceBounds, Instr.sliceBound, asIntOf, *]
  · rcases hhi with ⟨-, -, h⟩ | rfl
    · cases h
    · rcases hlo with ⟨rfl, rfl⟩ | rfl <;> simp [Instr.sliceBounds, Instr.sliceBound, asIntOf, *]

/-- 's[lo:hi:max]' at numbers. -/
theorem y_slice {o : Oper} {ρ : Operand → AV} {t e : TypeId} {y : Operand} {lo hi mx : Option Operand} {full f' : Bool} {k a b : Nat} {l : List (List AV)} (ho : o.op = .slice t y lo hi mx) (ht : P.underlying t = some (.slice e)) (hk : ∀ w, (sizeOf e).run P w = .ok k w) (hy : ρ y = .sl full k l)
    (hlo : (lo = none ∧ a = 0) ∨ ∃ z, lo = some z ∧ ρ z = .v (.int .i64 (a : Int))) (hhi : (hi = none ∧ b = l.length ∧ mx = none) ∨ ∃ z, hi = some z ∧ ρ z = .v (.int .i64 (b : Int))) (hmx : (mx = none ∧ f' = (full && decide (b = l.length))) ∨ (f' = true ∧ ∃ z, mx = some z ∧ ρ z = .v (.int .i64 (b : Int))))
    (h1 : a ≤ b) (h2 : b ≤ l.length) : Yields P cx o ρ ⟨[], .sl f' k ((l.take b).drop a), []⟩ := by
  refine yields_val fun ι M ac w _ hops => ?_
  have g1 := hops y (mem_ops ho (by simp [Op.operands]))
  rw [hy] at g1
  have g2 := g1.sl'
  obtain ⟨A, cap, hv, hc, hm, hfull⟩ := g2.sl_val
  rw [hv] at g2
  have ev : ∀ z, z ∈ o.op.operands → ∀ n : Nat, ρ z = .v (.int .i64 (n : Int)) → ac.eval z = .int .i64 (n : Int) := fun z hz n hn => by
    have := hops z hz
    rw [hn] at this
    exact this.ofV
  obtain ⟨m, hm1, hm2, hm3⟩ : ∃ m : Nat, ((mx.map ac.eval = none ∧ m = cap) ∨ mx.map ac.eval = some (.int .i64 (m : Int))) ∧ b ≤ m ∧ m ≤ cap ∧ (f' = true → m = b) := by
    rcases hmx with ⟨rfl, rfl⟩ | ⟨rfl, z, rfl, hz⟩
    · refine ⟨cap, .inl ⟨rfl, rfl⟩, by omega, Nat.le_refl _, fun h => ?_⟩
      simp at h
      rw [hfull h.1, h.2]
    · exact ⟨b, .inr (by simp [ev z (mem_ops ho (by simp [Op.operands])) b hz]), Nat.le_refl _, by omega, fun _ => rfl⟩
  have hlo' : (lo.map ac.eval = none ∧ a = 0) ∨ lo.map ac.eval = some (.int .i64 (a : Int)) := by
    rcases hlo with ⟨rfl, rfl⟩ | ⟨z, rfl, hz⟩
    · exact .inl ⟨rfl, rfl⟩
    · exact .inr (by simp [ev z (mem_ops ho (by simp [Op.operands])) a hz])
  have hhi' : (hi.map ac.eval = none ∧ b = l.length ∧ mx.map ac.eval = none) ∨ hi.map ac.eval = some (.int .i64 (b : Int)) := by
    rcases hhi with ⟨rfl, rfl, rfl⟩ | ⟨z, rfl, hz⟩
    · exact .inl ⟨rfl, rfl, rfl⟩
    · exact .inr (by simp [ev z (mem_ops ho (by simp [Op.operands])) b hz])
  have hrun := run_sliceBounds_n (P := P) (w := w) hlo' hhi' hm1 h1 hm2 hm3.1
  refine ⟨_, ?_, .d (g2.slice_piece (lo := a) (hi := b) (m := m) h1 h2 hm2 hm3.1 hm3.2)⟩
  simp [execOp, ho, Instr.sliceAt, Instr.slice, run_underlying ht, hv, hrun, hk]

theorem y_extract {o : Oper} {ρ : Operand → AV} {y : Operand} {i : Nat} {l : List AV} {x : AV} (ho : o.op = .extract y i) (hy : ρ y = .tup l) (hx : l[i]? = some x) : Yields P cx o ρ ⟨[], x, []⟩ := by
  refine yields_val fun ι M a w _ hops => ?_
  have h1 := hops y (mem_ops ho (by simp [Op.operands]))
  rw [hy] at h1
  obtain ⟨vs, hv, hn, hh⟩ := h1.tup'
  have hlt : i < vs.size := by have := (List.getElem?_eq_some_iff.1 hx).1; omega
  refine ⟨vs[i], ?_, hh i _ _ (Array.getElem?_eq_getElem hlt) hx⟩
  simp [execOp, ho, Instr.extract, hv, hlt]

theorem run_part_of {t : TypeId} {ag : Bool} {n off : Nat} {vs : Array Value} {l : List AV} {x : AV} (ha : ∀ w, (isAgg t).run P w = .ok ag w) (hn : ∀ w, (sizeOf t).run P w = .ok n w) (hs : vs.size = l.length) (hh : ∀ (i : Nat) (x : Value) (y : AV), vs[i]? = some x → l[i]? = some y → RepA ι M w x y)
    (hx : ldAV ag n off l = some x) : ∃ v, (part t vs off).run P w = .ok v w ∧ RepA ι M w v x := by
  unfold ldAV at hx
  cases ag with
  | false =>
    simp at hx
    have hlt : off < vs.size := by have := (List.getElem?_eq_some_iff.1 hx).1; omega
    exact ⟨vs[off], by simp [part, ha, hlt], hh off _ _ (Array.getElem?_eq_getElem hlt) hx⟩
  | true =>
    simp only [if_true] at hx
    split at hx
    · rename_i hle
      injection hx with hx
      subst hx
      refine ⟨.agg (vs.extract off (off + n)), by simp [part, ha, hn], .agg (by simp; omega) fun i u y hu hy => ?_⟩
      rw [List.getElem?_take] at hy
      split at hy
      · rename_i hi
        rw [List.getElem?_drop] at hy
        rw [Array.getElem?_extract_of_lt (by omega)] at hu
        exact hh (off + i) u y (by rw [← hu]; exact Array.getElem?_eq_getElem _) hy
      · cases hy
    · cases hx

theorem y_field {o : Oper} {ρ : Operand → AV} {t : TypeId} {y : Operand} {f n : Nat} {ag : Bool} {fs : Array Field} {fd : Field} {l : List AV} {x : AV} (ho : o.op = .field t y f) (hu : P.underlying t = some (.struct fs)) (hf : fs[f]? = some fd) (ha : ∀ w, (isAgg fd.type).run P w = .ok ag w) (hn : ∀ w, (sizeOf fd.type).run P w = .ok n w)
    (hy : ρ y = .agg l) (hx : ldAV ag n fd.offset l = some x) : Yields P cx o ρ ⟨[], x, []⟩ := by
  refine yields_val fun ι M a w _ hops => ?_
  have h1 := hops y (mem_ops ho (by simp [Op.operands]))
  rw [hy] at h1
  obtain ⟨vs, hv, hs, hh⟩ := h1.agg'
  obtain ⟨v, hr, hvx⟩ := run_part_of (P := P) (w := w) ha hn hs hh hx
  exact ⟨v, by simp [execOp, ho, Instr.field, run_underlying hu, hf, hv, asAgg, hr], hvx⟩

theorem y_index {o : Oper} {ρ : Operand → AV} {t e : TypeId} {y z : Operand} {n k : Nat} {ag : Bool} {l : List AV} {x : AV} {kd : IntKind} {i : Int} (ho : o.op = .index t y z) (hu : P.underlying t = some (.array n e)) (ha : ∀ w, (isAgg e).run P w = .ok ag w) (hn : ∀ w, (sizeOf e).run P w = .ok k w)
    (hy : ρ y = .agg l) (hz : ρ z = .v (.int kd i)) (h0 : 0 ≤ i) (hi : i < n) (hx : ldAV ag k (i.toNat * k) l = some x) : Yields P cx o ρ ⟨[], x, []⟩ := by
  refine yields_val fun ι M a w _ hops => ?_
  have h1 := hops y (mem_ops ho (by simp [Op.operands]))
  have h2 := hops z (mem_ops ho (by simp [Op.operands]))
  rw [hy] at h1
  rw [hz] at h2
  obtain ⟨vs, hv, hs, hh⟩ := h1.agg'
  obtain ⟨v, hr, hvx⟩ := run_part_of (P := P) (w := w) ha hn hs hh hx
  exact ⟨v, by simp [execOp, ho, Instr.index, run_underlying hu, hv, h2.ofV, asIntOf, h0, hi, hn, hr], hvx⟩

/-- Parts laid into cells. -/
def afill (place : Nat → Option (Nat × Nat)) (cells : List AV) : List (Nat × AV) → Option (List AV)
  | [] => some cells
  | (i, x) :: rest =>
    match place i with
    | none => none
    | some (off, size) => if x.flat && x.cells.length == size && decide (off + size ≤ cells.length) then afill place (splice cells off x.cells) rest else none

theorem fold_put : ∀ (us : List Value) (off j : Nat) (cs : Array Value), off + j + us.length ≤ cs.size → (us.zipIdx j).foldl (fun cs (p : Value × Nat) => cs.setIfInBounds (off + p.2) p.1) cs = (cs.toList.take (off + j) ++ us ++ cs.toList.drop (off + j + us.length)).toArray
  | [], off, j, cs, _ => by simp
  | u :: us, off, j, cs, h => by
    rw [List.zipIdx_cons, List.foldl_cons]
    simp only
    have hh : off + j < cs.size := by simp at h; omega
    rw [fold_put us off (j + 1) _ (by simp at h ⊢; omega)]
    congr 1
    simp only [Array.toList_setIfInBounds]
    apply List.ext_getElem?
    intro i
    have hl1 : (List.take (off + j) cs.toList).length = off + j := by simp; omega
    have hl2 : (List.take (off + (j + 1)) (cs.toList.set (off + j) u)).length = off + j + 1 := by simp; omega
    simp only [List.append_assoc]
    by_cases h1 : i < off + j
    · rw [List.getElem?_append_left (by omega), List.getElem?_append_left (by omega), List.getElem?_take, List.getElem?_take, if_pos (by omega), if_pos h1, List.getElem?_set_ne (by omega)]
    · by_cases h2 : i = off + j
      · subst h2
        rw [List.getElem?_append_left (by omega), List.getElem?_append_right (by omega), List.getElem?_take, if_pos (by omega), List.getElem?_set_self (by simpa using hh), hl1]
        simp
      · rw [List.getElem?_append_right (l₁ := List.take (off + (j + 1)) (cs.toList.set (off + j) u)) (by omega), List.getElem?_append_right (l₁ := List.take (off + j) cs.toList) (by omega), hl1, hl2]
        obtain ⟨m, hm⟩ : ∃ m, i - (off + j) = m + 1 := ⟨i - (off + j) - 1, by omega⟩
        rw [hm, show i - (off + j + 1) = m from by omega]
        simp only [List.cons_append, List.getElem?_cons_succ]
        by_cases h3 : m < us.length
        · rw [List.getElem?_append_left h3, List.getElem?_append_left h3]
        · rw [List.getElem?_append_right (by omega), List.getElem?_append_right (by omega), List.getElem?_drop, List.getElem?_drop, List.getElem?_set_ne (by simp; omega)]
          congr 1
          simp
          omega

theorem fill_of {place : Nat → Option (Nat × Nat)} {ι : Nat → Option Nat} {M : Nat → Prop} {w : World} {ev : Operand → Value} {ρ : Operand → AV} : ∀ (parts : List (Nat × Operand)) (cs : Array Value) (l l' : List AV), (∀ p, p ∈ parts → RepA ι M w (ev p.2) (ρ p.2)) → cs.size = l.length →
    (∀ (i : Nat) (x : Value) (y : AV), cs[i]? = some x → l[i]? = some y → x.oneCell' = true ∧ RepA ι M w x y) → afill place l (parts.map fun p => (p.1, ρ p.2)) = some l' →
    ∃ cs', Instr.fill place cs (parts.map fun p => (p.1, ev p.2)) = some cs' ∧ cs'.size = l'.length ∧ l'.length = l.length ∧ ∀ (i : Nat) (x : Value) (y : AV), cs'[i]? = some x → l'[i]? = some y → x.oneCell' = true ∧ RepA ι M w x y
  | [], cs, l, l', _, hs, hc, h => by
    simp [afill] at h; subst h
    exact ⟨cs, rfl, hs, rfl, hc⟩
  | (i, z) :: parts, cs, l, l', hp, hs, hc, h => by
    simp only [List.map_cons, afill] at h
    cases hpl : place i with
    | none => rw [hpl] at h; cases h
    | some os =>
      obtain ⟨off, size⟩ := os
      rw [hpl] at h
      simp only at h
      split at h
      · rename_i hcond
        simp only [Bool.and_eq_true, beq_iff_eq, decide_eq_true_eq] at hcond
        obtain ⟨⟨hfl, hlen⟩, hle⟩ := hcond
        have hpz := hp (i, z) (by simp)
        simp only at hpz
        obtain ⟨hsz, hel⟩ := hpz.cells hfl
        have hf := fold_put (ev z).cells.toList off 0 cs (by simp; omega)
        have hspl : (splice l off (ρ z).cells).length = l.length := by simp [splice]; omega
        obtain ⟨cs', h1, h2, h3, h4⟩ := fill_of parts ((cs.toList.take (off + 0) ++ (ev z).cells.toList ++ cs.toList.drop (off + 0 + (ev z).cells.toList.length)).toArray) (splice l off (ρ z).cells) l' (fun p hpp => hp p (by simp [hpp])) (by rw [hspl]; simp; omega) (by
          intro j x y hx hy
          have hto : (cs.toList.take off).length = off := by simp; omega
          have htb : (l.take off).length = off := by simp; omega
          simp only [splice, List.append_assoc] at hy
          simp only [Nat.add_zero, List.getElem?_toArray, List.append_assoc] at hx
          by_cases g1 : j < off
          · rw [List.getElem?_append_left (by omega), List.getElem?_take, if_pos g1] at hx hy
            exact hc j x y (by simpa using hx) hy
          · rw [List.getElem?_append_right (by omega), hto] at hx
            rw [List.getElem?_append_right (by omega), htb] at hy
            by_cases g2 : j - off < size
            · rw [List.getElem?_append_left (by simp; omega)] at hx
              rw [List.getElem?_append_left (by omega)] at hy
              exact hel (j - off) x y (by simpa using hx) hy
            · have e1 : (ev z).cells.toList.length = size := by simp; omega
              rw [List.getElem?_append_right (by omega), e1, List.getElem?_drop] at hx
              rw [List.getElem?_append_right (by omega), hlen, List.getElem?_drop] at hy
              have e : off + size + (j - off - size) = j := by omega
              rw [e] at hx hy
              exact hc j x y (by simpa using hx) hy) h
        refine ⟨cs', ?_, h2, by rw [h3, hspl], h4⟩
        simp only [List.map_cons, Instr.fill, hpl]
        have e1 : ¬ ((ev z).cells.size ≠ size ∨ off + (ev z).cells.size > cs.size) := by omega
        simp only [ne_eq, Bool.or_eq_true, decide_eq_true_eq, e1, if_false]
        rw [← hf] at h1
        rw [← Array.foldl_toList, Array.toList_zipIdx]
        exact h1
      · cases h
end

end Go.Proofs.YtkonljmmdifnaaaGreat.V
set_option linter.unusedSimpArgs false
set_option linter.unusedVariables false
namespace Go.Proofs.YtkonljmmdifnaaaGreat.V
open Go.RowKit

section
variable {P : Program} {cx : Cx} {ι : Nat → Option Nat} {M : Nat → Prop} {w : World}

theorem mem_parts {parts : Array (Nat × Operand)} {p : Nat × Operand} (h : p ∈ parts.toList) : p.2 ∈ ((parts.toList.map (·.2)).toArray : Array Operand) := by
  simp only [List.mem_toArray, List.mem_map]
  exact ⟨p, h, rfl⟩

theorem y_build {o : Oper} {ρ : Operand → AV} {t : TypeId} {parts : Array (Nat × Operand)} {fs : Array Field} {places : Array (Nat × Nat)} {z : Value} {l : List AV} (ho : o.op = .build t parts) (hu : P.underlying t = some (.struct fs)) (hz : ∀ w, (zeroValue t).run P w = .ok z w)
    (hpl : ∀ w, (fs.mapM fun f => Prod.mk f.offset <$> sizeOf f.type : Sem (Array (Nat × Nat))).run P w = .ok places w) (h1 : z.cells.all (·.oneCell') = true) (hl : afill (fun i => places[i]?) (z.cells.toList.map .v) (parts.toList.map fun p => (p.1, ρ p.2)) = some l) : Yields P cx o ρ ⟨[], .agg l, []⟩ := by
  refine yields_val fun ι M a w _ hops => ?_
  obtain ⟨cs, h2, h3, h4, h5⟩ := fill_of (ι := ι) (M := M) (w := w) (ev := a.eval) (ρ := ρ) parts.toList z.cells (z.cells.toList.map .v) l (fun p hp => hops p.2 (mem_ops ho (by simp only [Op.operands]; exact mem_parts hp))) (by simp)
    (fun i x y hx hy => by
      simp [hx] at hy
      subst hy
      exact ⟨(Array.all_eq_true_iff_forall_mem.1 h1) x (Array.mem_of_getElem? hx), .d (.v _)⟩) hl
  refine ⟨.agg cs, ?_, .agg h3 fun i x y hx hy => (h5 i x y hx hy).2⟩
  simp [execOp, ho, Instr.build, hz, run_underlying hu, hpl, h2]

theorem y_build_arr {o : Oper} {ρ : Operand → AV} {t e : TypeId} {parts : Array (Nat × Operand)} {n k : Nat} {z : Value} {l : List AV} (ho : o.op = .build t parts) (hu : P.underlying t = some (.array n e)) (hz : ∀ w, (zeroValue t).run P w = .ok z w)
    (hk : ∀ w, (sizeOf e).run P w = .ok k w) (h1 : z.cells.all (·.oneCell') = true) (hl : afill (fun i => some (i * k, k)) (z.cells.toList.map .v) (parts.toList.map fun p => (p.1, ρ p.2)) = some l) : Yields P cx o ρ ⟨[], .agg l, []⟩ := by
  refine yields_val fun ι M a w _ hops => ?_
  obtain ⟨cs, h2, h3, h4, h5⟩ := fill_of (ι := ι) (M := M) (w := w) (ev := a.eval) (ρ := ρ) parts.toList z.cells (z.cells.toList.map .v) l (fun p hp => hops p.2 (mem_ops ho (by simp only [Op.operands]; exact mem_parts hp))) (by simp)
    (fun i x y hx hy => by
      simp [hx] at hy
      subst hy
      exact ⟨(Array.all_eq_true_iff_forall_mem.1 h1) x (Array.mem_of_getElem? hx), .d (.v _)⟩) hl
  refine ⟨.agg cs, ?_, .agg h3 fun i x y hx hy => (h5 i x y hx hy).2⟩
  simp [execOp, ho, Instr.build, hz, run_underlying hu, hk, h2]

theorem zeros_at (zc : Array Value) (hz : 0 < zc.size) (n i : Nat) (x : Value) (h : ((Array.range n).map (zc[· % zc.size]!))[i]? = some x) : i < n ∧ x = zc.getD (i % zc.size) undef ∧ x ∈ zc.toList := by
  simp only [Array.getElem?_map, Option.map_eq_some_iff] at h
  obtain ⟨j, hj, rfl⟩ := h
  have hlt : i < n := by
    rcases Nat.lt_or_ge i n with h | h
    · exact h
    · rw [Array.getElem?_eq_none (by simpa using h)] at hj; cases hj
  have : j = i := by
    rw [Array.getElem?_eq_getElem (by simpa using hlt)] at hj
    simpa using hj.symm
  subst this
  have hm : j % zc.size < zc.size := Nat.mod_lt _ hz
  refine ⟨hlt, ?_, ?_⟩
  · rw [getElem!_pos zc (j % zc.size) hm, Array.getD_eq_getD_getElem?, Array.getElem?_eq_getElem hm]; rfl
  · rw [getElem!_pos zc (j % zc.size) hm]; simp

theorem y_buildSlice {o : Oper} {ρ : Operand → AV} {t e : TypeId} {len k b : Nat} {parts : Array (Nat × Operand)} {z : Value} {l : List AV} (ho : o.op = .buildSlice t len parts) (hu : P.underlying t = some (.slice e)) (hz : ∀ w, (zeroValue e).run P w = .ok z w) (hk : ∀ w, (sizeOf e).run P w = .ok k w)
    (hzk : z.cells.size = k) (hk0 : 0 < k) (h1 : z.cells.all (·.oneCell') = true) (hlk : len * k ≤ 16777216) (hl : afill (fun i => some (i * k, k)) ((List.range (len * k)).map fun i => .v (z.cells.getD (i % k) undef)) (parts.toList.map fun p => (p.1, ρ p.2)) = some l) :
    Yields P cx o ρ ⟨[], .osl b k 0 len, [(b, some ⟨e, l⟩)]⟩ := by
  refine yields_new fun ι M a w hops => ?_
  generalize hc0 : (if len * k = 0 then #[] else z.cells) = zc
  have hcells : (Array.range (len * k)).map (zc[· % zc.size]!) = (Array.range (len * k)).map (z.cells[· % z.cells.size]!) := by
    by_cases h0 : len * k = 0
    · simp [h0]
    · rw [if_neg h0] at hc0; rw [hc0]
  obtain ⟨cs, h2, h3, h4, h5⟩ := fill_of (ι := ι) (M := M) (w := w) (ev := a.eval) (ρ := ρ) parts.toList ((Array.range (len * k)).map (z.cells[· % z.cells.size]!)) ((List.range (len * k)).map fun i => .v (z.cells.getD (i % k) undef)) l (fun p hp => hops p.2 (mem_ops ho (by simp only [Op.operands]; exact mem_parts hp))) (by simp)
    (fun i x y hx hy => by
      obtain ⟨e1, e2, e3⟩ := zeros_at z.cells (by omega) _ _ _ hx
      rw [List.getElem?_map, List.getElem?_range e1] at hy
      simp only [Option.map_some, Option.some.injEq] at hy
      subst hy
      rw [hzk] at e2
      exact ⟨(Array.all_eq_true_iff_forall_mem.1 h1) x (by simpa using e3), by rw [e2]; exact .d (.v _)⟩) hl
  have h2' : Instr.fill (fun i => some (i * k, k)) ((Array.range (len * k)).map (zc[· % zc.size]!)) (parts.toList.map fun p => (p.1, a.eval p.2)) = some cs := by rw [hcells]; exact h2
  have hll : l.length = len * k := by rw [h4]; simp
  refine ⟨.slice (some ⟨w.heap.size, 0, none⟩) len len, cs, ?_, (by show l.length ≤ _; omega), h5, fun ι' M' h => .osl h (Nat.le_refl _) (by have := Nat.le_mul_of_pos_right len hk0; simp only [maxLen]; omega) (heap_alloc_new w _) (by rw [h3, hll]; simp)⟩
  by_cases h0 : len * k = 0
  · simp only [h0, if_true] at hc0
    subst hc0
    have hb : ¬ 16777216 < len * k := by omega
    have hr0 : Array.range 0 = #[] := rfl
    simp only [h0, hr0, Array.map_empty] at h2'
    simp [execOp, ho, Instr.buildSlice, run_underlying hu, hk, h0, hr0, h2', newRow, newObj, Sem.run]
  · simp only [h0, if_false] at hc0
    subst hc0
    have hb : ¬ 16777216 < len * k := by omega
    simp [execOp, ho, Instr.buildSlice, run_underlying hu, hk, hb, h0, hz, h2', newRow, newObj, Sem.run]

theorem y_makeFunc {o : Oper} {ρ : Operand → AV} {f : Fn} {first caps : Array Operand} (ho : o.op = .makeFunc f first caps) : Yields P cx o ρ ⟨[], .fn f (first.toList.map ρ) (caps.toList.map ρ), []⟩ := by
  refine yields_val fun ι M a w _ hops => ⟨.func f (first.map a.eval) (caps.map a.eval), by simp [execOp, ho, Instr.makeFunc], .fn (by simp) (by simp) ?_ ?_⟩
  · intro i x y hx hy
    simp only [Array.getElem?_map, List.getElem?_map, Option.map_eq_some_iff] at hx hy
    obtain ⟨p, hp, rfl⟩ := hx
    obtain ⟨q, hq, rfl⟩ := hy
    have : p = q := by simpa [hp] using hq
    subst this
    exact hops p (mem_ops ho (by simp only [Op.operands]; exact Array.mem_append.2 (.inl (Array.mem_of_getElem? hp))))
  · intro i x y hx hy
    simp only [Array.getElem?_map, List.getElem?_map, Option.map_eq_some_iff] at hx hy
    obtain ⟨p, hp, rfl⟩ := hx
    obtain ⟨q, hq, rfl⟩ := hy
    have : p = q := by simpa [hp] using hq
    subst this
    exact hops p (mem_ops ho (by simp only [Op.operands]; exact Array.mem_append.2 (.inr (Array.mem_of_getElem? hp))))

theorem y_makeInterface {o : Oper} {ρ : Operand → AV} {t : TypeId} {y : Operand} (ho : o.op = .makeInterface t y) (ht : P.concrete t = true) : Yields P cx o ρ ⟨[], .iface t (ρ y), []⟩ :=
  yields_val fun ι M a w _ hops => ⟨.iface t (a.eval y), by simp [execOp, ho, run_makeInterface w t _ ht], .iface (hops y (mem_ops ho (by simp [Op.operands])))⟩

/-! ### append -/

/-- What is appended: m elements of k cells, which hold 'news'; of which boxes. -/
inductive IsSrc : AV → List (Nat × Bx) → Nat → Nat → List AV → Prop
  | sl {f : Bool} {k m : Nat} {l : List (List AV)} (h : l.length = m) : IsSrc (.sl f k l) [] k m l.flatten
  | osl {b k off m : Nat} {bx : Bx} (h : off + m * k ≤ bx.cs.length) : IsSrc (.osl b k off m) [(b, bx)] k m ((bx.cs.drop off).take (m * k))
  | nil {k c : Nat} : IsSrc (.v (.slice none 0 c)) [] k 0 []

def SrcV (ι : Nat → Option Nat) (M : Nat → Prop) (w : World) (v : Value) (k m : Nat) (news : List AV) : Prop :=
  ∃ (A : Option Addr) (c : Nat) (us : List Value), v = .slice A m c ∧ us.length = m * k ∧ news.length = m * k ∧ (A = none → m = 0) ∧ (∀ ad, A = some ad → ∀ (j : Nat) (u : Value), us[j]? = some u → w.cell? (ad.add j) = some u) ∧
    (∀ (j : Nat) (u : Value) (y : AV), us[j]? = some u → news[j]? = some y → RepA ι M w u y) ∧ ∀ u, u ∈ us → u.oneCell' = true

theorem length_flat {k : Nat} : ∀ (l : List (List AV)), (∀ r, r ∈ l → r.length = k) → l.flatten.length = l.length * k
  | [], _ => by simp
  | r :: l, h => by
    rw [List.flatten_cons, List.length_append, length_flat l fun r hr => h r (by simp [hr]), h r (by simp), List.length_cons, Nat.add_mul]
    omega

theorem flat_at {k : Nat} (hk : 0 < k) : ∀ (l : List (List AV)) (t : Nat) (y : AV), (∀ r, r ∈ l → r.length = k) → l.flatten[t]? = some y → ∃ row, l[t / k]? = some row ∧ row[t % k]? = some y ∧ t / k < l.length
  | [], t, y, _, h => by simp at h
  | r :: l, t, y, hr, h => by
    have hrk := hr r (by simp)
    rw [List.flatten_cons] at h
    by_cases ht : t < k
    · rw [List.getElem?_append_left (by omega)] at h
      rw [Nat.div_eq_of_lt ht, Nat.mod_eq_of_lt ht]
      exact ⟨r, rfl, h, by simp⟩
    · rw [List.getElem?_append_right (by omega), hrk] at h
      obtain ⟨row, h1, h2, h3⟩ := flat_at hk l (t - k) y (fun r h => hr r (by simp [h])) h
      have e1 : t / k = (t - k) / k + 1 := by rw [Nat.div_eq_sub_div hk (by omega)]
      have e2 : t % k = (t - k) % k := by rw [Nat.mod_eq_sub_mod (by omega)]
      rw [e1, e2]
      exact ⟨row, by simpa using h1, h2, by simp; omega⟩

theorem IsSrc.rep {y : AV} {fp : List (Nat × Bx)} {k m : Nat} {news : List AV} {v : Value} (hs : IsSrc y fp k m news) (hk : 0 < k) (h : RepA ι M w v y) (hfp : ∀ b x, (b, x) ∈ fp → x.cs ≠ [] → ∃ g, ι b = some g ∧ BoxRep ι M w g x) : SrcV ι M w v k m news := by
  cases hs with
  | @sl f _ _ l hl =>
    have h := h.sl'
    cases h with
    | @sl A n cap _ _ _ b off x hn hc hm hf hrow hA hcell hx =>
      refine ⟨A, cap, (List.range (m * k)).map fun t => x (t / k) (t % k), by rw [hn, hl], by simp, by rw [length_flat l hrow, hl], ?_, ?_, ?_, ?_⟩
      · intro hA0
        rcases l with _ | ⟨r, l⟩
        · simp at hl; omega
        · have := (hA (by simp)).1; rw [hA0] at this; cases this
      · rintro ad rfl j u hu
        rw [List.getElem?_map] at hu
        have hj : j < m * k := by
          rcases Nat.lt_or_ge j (m * k) with h | h
          · exact h
          · rw [List.getElem?_eq_none (by simpa using h)] at hu; simp at hu
        rw [List.getElem?_range hj] at hu
        simp at hu
        subst hu
        have hdk : j / k < m := (Nat.div_lt_iff_lt_mul hk).2 hj
        have hne : l ≠ [] := by rintro rfl; simp at hl; rw [← hl] at hdk; exact Nat.not_lt_zero _ hdk
        have hA1 := (hA hne).1
        injection hA1 with hA1
        subst hA1
        have := (hcell (j / k) (j % k) (by omega) (Nat.mod_lt _ hk)).1
        rw [addr_add']
        rw [Nat.add_assoc, Nat.div_add_mod' j k] at this
        exact this
      · intro j u y hu hy
        obtain ⟨row, h1, h2, h3⟩ := flat_at hk l j y hrow hy
        rw [List.getElem?_map] at hu
        have hj : j < m * k := by
          rcases Nat.lt_or_ge j (m * k) with h | h
          · exact h
          · rw [List.getElem?_eq_none (by simpa using h)] at hu; simp at hu
        rw [List.getElem?_range hj] at hu
        simp at hu
        subst hu
        exact .d (hx _ row _ y h1 h2)
      · intro u hu
        simp only [List.mem_map, List.mem_range] at hu
        obtain ⟨j, hj, rfl⟩ := hu
        exact (hcell (j / k) (j % k) (by have := (Nat.div_lt_iff_lt_mul hk).2 hj; omega) (Nat.mod_lt _ hk)).2
  | @osl b _ off _ bx hle =>
    rcases h.osl' with ⟨g, cap, c, t, hv, hg, hn, hm, hh, hsz⟩ | ⟨rfl, A, hv⟩
    · by_cases hm0 : m = 0
      · subst hm0
        exact ⟨_, _, [], hv, by simp, by simp, fun _ => rfl, by simp, by simp, by simp⟩
      have hmk : 0 < m * k := Nat.mul_pos (by omega) hk
      obtain ⟨g', hg', c', hc', hlen, hcs⟩ := hfp b bx (by simp) (by intro h; rw [h] at hle; simp at hle; omega)
      rw [hg] at hg'
      injection hg' with hg'
      subst hg'
      rw [hh] at hc'
      injection hc' with hc'
      injection hc' with e1 e2
      subst e1
      have key : ∀ (j : Nat) (u : Value), ((c.toList.drop off).take (m * k))[j]? = some u → j < m * k ∧ c[off + j]? = some u := by
        intro j u hu
        rw [List.getElem?_take] at hu
        split at hu
        · rw [List.getElem?_drop] at hu
          exact ⟨by assumption, by simpa using hu⟩
        · cases hu
      refine ⟨_, _, (c.toList.drop off).take (m * k), hv, by simp; omega, by simp; omega, by simp, ?_, ?_, ?_⟩
      · rintro ad had j u hu
        injection had with had
        subst had
        rw [addr_add', cell_of_row _ _ _ _ _ _ hh]
        exact (key j u hu).2
      · intro j u y hu hy
        obtain ⟨hj, hu⟩ := key j u hu
        rw [List.getElem?_take, if_pos hj, List.getElem?_drop] at hy
        exact (hcs _ _ _ hu hy).2
      · intro u hu
        obtain ⟨j, hj⟩ := List.mem_iff_getElem?.1 hu
        obtain ⟨hj, hu⟩ := key j u hj
        exact (hcs _ _ _ hu (List.getElem?_eq_getElem (by omega))).1
    · exact ⟨A, 0, [], hv, by simp, by simp, fun _ => rfl, by simp, by simp, by simp⟩
  | nil => exact ⟨none, _, [], h.ofV, by simp, by simp, fun _ => rfl, by simp, by simp, by simp⟩

/-- A slice without room grows. -/
theorem run_full {t ty e : TypeId} {i : TypeInfo} {z : Value} (ht : P.underlying t = some (.slice e)) (hi : P.info? e = some i) (hz : i.zero = some z) (hzs : z.cells.size = i.size)
    (B : Option Addr) (n : Nat) (olds : List Value) (hlo : olds.length = n * i.size) (hB : B = none → n = 0) (holds : ∀ ad, B = some ad → ∀ (j : Nat) (u : Value), olds[j]? = some u → w.cell? (ad.add j) = some u)
    (a : Addr) (m c : Nat) (news : List Value) (hl : news.length = m * i.size) (hnews : ∀ (j : Nat) (u : Value), news[j]? = some u → w.cell? (a.add j) = some u) (hm : 0 < m) (h63 : n + m ≤ maxLen) (hbytes : (n + m) * i.bytes ≤ 140737488355328) :
    ∃ (cap : Nat) (C : Array Value), (Builtin.append_ #[t, t] ty #[.slice B n n, .slice (some a) m c]).run P w = .ok (.slice (some ⟨w.heap.size, 0, none⟩) (n + m) cap) (w.drew.alloc (.cells C e)) ∧ n + m ≤ cap ∧ cap ≤ maxLen ∧ C.size = cap * i.size ∧
      ∀ (j : Nat) (u : Value), (olds ++ news)[j]? = some u → C[j]? = some u := by
  have hsmall : n + m ≤ 9223372036854775807 := by simp only [maxLen] at h63; omega
  have hge := grownCap_ge w (n + m) n e
  have hcm : grownCap w (n + m) n e ≤ maxLen := grownCap_le_maxLen w (n + m) n e h63
  refine ⟨grownCap w (n + m) n e, olds.toArray ++ news.toArray ++ Builtin.zeroCells z.cells (grownCap w (n + m) n e - (n + m)), ?_, hge, hcm, ?_, ?_⟩
  · cases B with
    | none =>
      have hn := hB rfl
      subst hn
      have : olds = [] := List.eq_nil_of_length_eq_zero (by simpa using hlo)
      subst this
      have hr := run_append_nil (P := P) w t ty e i z ht hi hz a m c news hl hnews hm (by omega) (by simp only [Nat.zero_add] at hbytes; omega)
      simpa using hr
    | some b => exact run_append_grow (P := P) w t ty e i z ht hi hz b n n olds hlo (holds b rfl) a m c news hl hnews (by omega) (by omega) (growslice_fits (by omega) hbytes)
  · simp only [Array.size_append, List.size_toArray, size_zeroCells, hzs, hlo, hl, ← Nat.add_mul]
    congr 1
    omega
  · intro j u hu
    have hj := (List.getElem?_eq_some_iff.1 hu).1
    rw [Array.getElem?_append_left (by simpa using hj)]
    simpa using hu
end

end Go.Proofs.YtkonljmmdifnaaaGreat.V
set_option linter.unusedSimpArgs false
set_option linter.unusedVariables false
namespace Go.Proofs.YtkonljmmdifnaaaGreat.V
open Go.RowKit

section
variable {P : Program} {cx : Cx} {ι : Nat → Option Nat} {box : Nat → Option Bx} {used : Nat → Prop} {w : World}

theorem Step.trans {ι1 ι2 : Nat → Option Nat} {box1 box2 : Nat → Option Bx} {u1 u2 : Nat → Prop} {w1 w2 : World} (h : Step cx ι box used w ι1 box1 u1 w1) (k : Step cx ι1 box1 u1 w1 ι2 box2 u2 w2) : Step cx ι box used w ι2 box2 u2 w2 :=
  ⟨k.h, fun v y hv => k.keep _ _ (h.keep _ _ hv), h.oth.trans k.oth⟩

theorem Step.umono {ι1 : Nat → Option Nat} {box1 : Nat → Option Bx} {u1 u2 : Nat → Prop} {w1 : World} (h : Step cx ι box used w ι1 box1 u1 w1) (hu : ∀ b, u1 b → u2 b) : Step cx ι box used w ι1 box1 u2 w1 := ⟨h.h.used_mono hu, h.keep, h.oth⟩

/-- The heap is the same. -/
theorem step_heap (hs : HSat cx ι box used w) {w' : World} (h1 : w'.heap = w.heap) (h2 : w'.os = w.os) (h3 : w'.tape = w.tape) (h4 : w'.output = w.output) : Step cx ι box used w ι box used w' := by
  have hev : Evo w w' := ⟨by rw [h1]; exact Nat.le_refl _, fun g c t h => ⟨c, by rw [h1]; exact h, rfl⟩⟩
  have hk : ∀ v y, RepA ι (Mof cx ι box) w v y → RepA ι (Mof cx ι box) w' v y := fun v y h => RepA.keep (w := w) (w' := w') (fun _ _ h => h) (fun _ _ h => h) hev (fun g _ _ => by rw [h1]) h
  refine ⟨⟨⟨h2.trans hs.wi.os, h3.trans hs.wi.tape, h4.trans hs.wi.output, hs.wi.evo.trans hev, fun g o e1 e2 => by rw [h1]; exact hs.wi.oth g o e1 e2, fun k hk hG => by rw [h1]; exact hs.wi.block k hk hG⟩, hs.m0, hs.fix, fun b g hb => by rw [h1]; exact hs.dom b g hb, hs.ub, ?_, hs.inj⟩, hk, fun g o h _ => by rw [h1]; exact h⟩
  intro b x hb
  rcases hs.own b x hb with h | ⟨g, e1, e2, e3, c, e4, e5, e6⟩
  · exact .inl h
  · exact .inr ⟨g, e1, e2, e3, c, by rw [h1]; exact e4, e5, fun j v y hv hy => ⟨(e6 j v y hv hy).1, hk _ _ (e6 j v y hv hy).2⟩⟩

theorem cell_obj {D : Nat} {o' : Obj} {p : Addr} {v : Value} (ho : ∀ o, w.heap[D]? = some o → isC o = false) (h : w.cell? p = some v) : (w.putObj D o').cell? p = some v := by
  by_cases e : p.block = D
  · exfalso
    unfold World.cell? at h
    rw [e] at h
    cases hd : w.heap[D]? with
    | none => rw [hd] at h; simp at h
    | some o =>
      have := ho o hd
      rw [hd] at h
      cases o <;> simp [isC] at this <;> simp at h
  · rw [World.cell?_of_block (World.putObj_heap_other e)]; exact h

theorem RepD.obj {M : Nat → Prop} {D : Nat} {o' : Obj} (ho : ∀ o, w.heap[D]? = some o → isC o = false) {v : Value} {a : AV} (h : RepD M w v a) : RepD M (w.putObj D o') v a := by
  induction h with
  | v x => exact .v x
  | sl b off x hn hc hm hf hk hA hl hx ih => exact .sl b off x hn hc hm hf hk (fun h => ⟨(hA h).1, (hA h).2.1, by simpa using (hA h).2.2⟩) (fun i j hi hj => ⟨cell_obj ho (hl i j hi hj).1, (hl i j hi hj).2⟩) ih
  | agg hn _ ih => exact .agg hn ih
  | tup hn _ ih => exact .tup hn ih
  | @mp r c es hM hr => exact .mp hM (by by_cases e : r = D
                                         · subst e; have := ho _ hr; simp [isC] at this
                                         · rw [World.putObj_heap_other e]; exact hr)
  | pp x hM hg hl hx ih => exact .pp x hM (by simpa using hg) (fun j hj => ⟨cell_obj ho (hl j hj).1, (hl j hj).2⟩) ih
  | fn hf hc _ _ ih1 ih2 => exact .fn hf hc ih1 ih2

theorem heap_obj {D g : Nat} {o' : Obj} {c : Array Value} {t : TypeId} (ho : ∀ o, w.heap[D]? = some o → isC o = false) (h : w.heap[g]? = some (.cells c t (0, 0))) : (w.putObj D o').heap[g]? = some (.cells c t (0, 0)) := by
  by_cases e : g = D
  · subst e; have := ho _ h; simp [isC] at this
  · rw [World.putObj_heap_other e]; exact h

theorem RepA.obj {M : Nat → Prop} {D : Nat} {o' : Obj} (ho : ∀ o, w.heap[D]? = some o → isC o = false) {v : Value} {a : AV} (h : RepA ι M w v a) : RepA ι M (w.putObj D o') v a := by
  induction h with
  | d h => exact .d (h.obj ho)
  | any v => exact .any v
  | ptr h => exact .ptr h
  | osl h hn hm hh hs => exact .osl h hn hm (heap_obj ho hh) hs
  | osl0 A b k o => exact .osl0 A b k o
  | fn hf hc _ _ ih1 ih2 => exact .fn hf hc ih1 ih2
  | agg hn _ ih => exact .agg hn ih
  | tup hn _ ih => exact .tup hn ih
  | iface _ ih => exact .iface ih
  | iffT _ ih => exact .iffT ih
  | iffF a => exact .iffF a
  | bit h => exact .bit h

/-- What is no block of cells turns. -/
theorem hsat_obj (hs : HSat cx ι box used w) {D : Nat} {o' : Obj} (hD : cx.base ≤ D) (ho : ∀ o, w.heap[D]? = some o → isC o = false) : HSat cx ι box used (w.putObj D o') := by
  refine ⟨⟨hs.wi.os, hs.wi.tape, hs.wi.output, hs.wi.evo.trans ⟨by simp, fun g c t h => ⟨c, heap_obj ho h, rfl⟩⟩, fun g o e1 e2 => by have := (Array.getElem?_eq_some_iff.1 e1).1; simp only [Cx.base] at hD; rw [World.putObj_heap_other (by omega)]; exact hs.wi.oth g o e1 e2, fun k hk hG => ?_⟩, hs.m0, hs.fix, fun b g hb => by simpa using hs.dom b g hb, hs.ub, ?_, hs.inj⟩
  · rw [World.putObj_heap_other (by omega)]; exact hs.wi.block k hk hG
  · intro b x hb
    rcases hs.own b x hb with h | ⟨g, e1, e2, e3, c, e4, e5, e6⟩
    · exact .inl h
    · exact .inr ⟨g, e1, e2, e3, c, heap_obj ho e4, e5, fun j v y hv hy => ⟨(e6 j v y hv hy).1, (e6 j v y hv hy).2.obj ho⟩⟩

/-- A box is given up. -/
theorem step_kill (hs : HSat cx ι box used w) (b0 : Nat) : Step cx ι box used w ι (bput box [(b0, none)]) used w := by
  have hb : ∀ b x, bput box [(b0, none)] b = some x → box b = some x := fun b x h => by
    by_cases hi : b = b0
    · subst hi; simp [bput] at h
    · simpa [bput, hi] using h
  have hk : ∀ v y, RepA ι (Mof cx ι box) w v y → RepA ι (Mof cx ι (bput box [(b0, none)])) w v y := fun v y h => h.less fun _ => Mof.mono hb
  refine ⟨⟨hs.wi, hs.m0, hs.fix, hs.dom, fun b x h => hs.ub b x (hb b x h), fun b x h => ?_, fun b b' x x' g h1 h2 => hs.inj b b' x x' g (hb b x h1) (hb b' x' h2)⟩, hk, Oth.refl _⟩
  rcases hs.own b x (hb b x h) with h | ⟨g, e1, e2, e3, c, e4, e5, e6⟩
  · exact .inl h
  · exact .inr ⟨g, e1, e2, e3, c, e4, e5, fun j v y hv hy => ⟨(e6 j v y hv hy).1, hk _ _ (e6 j v y hv hy).2⟩⟩

/-- A box goes under a new name. -/
theorem step_name (hs : HSat cx ι box used w) {b0 b g : Nat} {bx : Bx} (hb0 : box b0 = some bx) (hg : ι b0 = some g) (hu : ¬ used b) :
    Step cx ι box used w (iput ι b g) (bput box [(b0, none), (b, some bx)]) (fun i => used i ∨ i = b) w := by
  have hιb : ι b = none := by
    cases h : ι b with
    | none => rfl
    | some g => exact absurd (hs.dom b g h).1 hu
  have hbb : b ≠ b0 := by rintro rfl; exact hu (hs.ub b bx hb0)
  have hι : ∀ i g', ι i = some g' → iput ι b g i = some g' := fun i g' h => by
    have : i ≠ b := by rintro rfl; rw [hιb] at h; cases h
    simp [iput, this, h]
  have cases3 : ∀ i x, bput box [(b0, none), (b, some bx)] i = some x → (i = b ∧ x = bx) ∨ (i ≠ b ∧ i ≠ b0 ∧ box i = some x) := fun i x h => by
    by_cases h0 : i = b0
    · subst h0; simp [bput] at h
    · by_cases h1 : i = b
      · subst h1; simp [bput, h0] at h; exact .inl ⟨rfl, h.symm⟩
      · simp [bput, h0, h1] at h; exact .inr ⟨h1, h0, h⟩
  have hM : ∀ k, Mof cx (iput ι b g) (bput box [(b0, none), (b, some bx)]) k → Mof cx ι box k := by
    rintro k (h | ⟨i, x, h1, h2⟩)
    · exact .inl h
    · rcases cases3 i x h1 with ⟨rfl, rfl⟩ | ⟨h3, h4, h5⟩
      · simp [iput] at h2; subst h2; exact .inr ⟨b0, x, hb0, hg⟩
      · simp [iput, h3] at h2; exact .inr ⟨i, x, h5, h2⟩
  have hk : ∀ v y, RepA ι (Mof cx ι box) w v y → RepA (iput ι b g) (Mof cx (iput ι b g) (bput box [(b0, none), (b, some bx)])) w v y :=
    fun v y h => h.keep hι (fun k _ h => hM k h) (Evo.refl w) fun _ _ _ => rfl
  refine ⟨⟨hs.wi, hs.m0, fun i k h => hι i k (hs.fix i k h), ?_, ?_, ?_, ?_⟩, hk, Oth.refl _⟩
  · intro i k hi
    by_cases h1 : i = b
    · subst h1; simp [iput] at hi; subst hi; exact ⟨.inr rfl, (hs.dom b0 _ hg).2⟩
    · simp [iput, h1] at hi; exact ⟨.inl (hs.dom i k hi).1, (hs.dom i k hi).2⟩
  · intro i x hi
    rcases cases3 i x hi with ⟨rfl, -⟩ | ⟨-, -, h⟩
    · exact .inr rfl
    · exact .inl (hs.ub i x h)
  · intro i x hi
    rcases cases3 i x hi with ⟨rfl, rfl⟩ | ⟨h3, h4, h5⟩
    · rcases hs.own b0 x hb0 with ⟨-, h⟩ | ⟨g', e1, e2, e3, c, e4, e5, e6⟩
      · rw [hg] at h; cases h
      · rw [hg] at e1; injection e1 with e1; subst e1
        exact .inr ⟨g, by simp [iput], e2, e3, c, e4, e5, fun j v y hv hy => ⟨(e6 j v y hv hy).1, hk _ _ (e6 j v y hv hy).2⟩⟩
    · rcases hs.own i x h5 with ⟨h6, h7⟩ | ⟨g', e1, e2, e3, c, e4, e5, e6⟩
      · exact .inl ⟨h6, by simp [iput, h3, h7]⟩
      · exact .inr ⟨g', hι _ _ e1, e2, e3, c, e4, e5, fun j v y hv hy => ⟨(e6 j v y hv hy).1, hk _ _ (e6 j v y hv hy).2⟩⟩
  · intro i i' x x' k h1 h2 h3 h4
    rcases cases3 i x h1 with ⟨rfl, rfl⟩ | ⟨g1, g2, g3⟩ <;> rcases cases3 i' x' h2 with ⟨rfl, rfl⟩ | ⟨f1, f2, f3⟩
    · rfl
    · simp [iput] at h3; simp [iput, f1] at h4; subst h3; exact absurd (hs.inj i' b0 x' x _ f3 hb0 h4 hg) f2
    · simp [iput] at h4; simp [iput, g1] at h3; subst h4; exact absurd (hs.inj i b0 x x' _ g3 hb0 h3 hg) g2
    · simp [iput, g1] at h3; simp [iput, f1] at h4; exact hs.inj i i' x x' k g3 f3 h3 h4

/-- An empty box that lies nowhere. -/
theorem step_empty (hs : HSat cx ι box used w) {b : Nat} {t : TypeId} (hu : ¬ used b) : Step cx ι box used w ι (bput box [(b, some ⟨t, []⟩)]) (fun i => used i ∨ i = b) w := by
  have hιb : ι b = none := by
    cases h : ι b with
    | none => rfl
    | some g => exact absurd (hs.dom b g h).1 hu
  have cases2 : ∀ i x, bput box [(b, some ⟨t, []⟩)] i = some x → (i = b ∧ x = ⟨t, []⟩) ∨ (i ≠ b ∧ box i = some x) := fun i x h => by
    by_cases h1 : i = b
    · subst h1; simp [bput] at h; exact .inl ⟨rfl, h.symm⟩
    · simp [bput, h1] at h; exact .inr ⟨h1, h⟩
  have hM : ∀ k, Mof cx ι (bput box [(b, some ⟨t, []⟩)]) k → Mof cx ι box k := by
    rintro k (h | ⟨i, x, h1, h2⟩)
    · exact .inl h
    · rcases cases2 i x h1 with ⟨rfl, -⟩ | ⟨-, h5⟩
      · rw [hιb] at h2; cases h2
      · exact .inr ⟨i, x, h5, h2⟩
  have hk : ∀ v y, RepA ι (Mof cx ι box) w v y → RepA ι (Mof cx ι (bput box [(b, some ⟨t, []⟩)])) w v y := fun v y h => h.less hM
  refine ⟨⟨hs.wi, hs.m0, hs.fix, fun i k hi => ⟨.inl (hs.dom i k hi).1, (hs.dom i k hi).2⟩, ?_, ?_, ?_⟩, hk, Oth.refl _⟩
  · intro i x hi
    rcases cases2 i x hi with ⟨rfl, -⟩ | ⟨-, h⟩
    · exact .inr rfl
    · exact .inl (hs.ub i x h)
  · intro i x hi
    rcases cases2 i x hi with ⟨rfl, rfl⟩ | ⟨-, h5⟩
    · exact .inl ⟨rfl, hιb⟩
    · rcases hs.own i x h5 with h | ⟨g', e1, e2, e3, c, e4, e5, e6⟩
      · exact .inl h
      · exact .inr ⟨g', e1, e2, e3, c, e4, e5, fun j v y hv hy => ⟨(e6 j v y hv hy).1, hk _ _ (e6 j v y hv hy).2⟩⟩
  · intro i i' x x' k h1 h2 h3 h4
    rcases cases2 i x h1 with ⟨rfl, rfl⟩ | ⟨g1, g3⟩
    · rw [hιb] at h3; cases h3
    · rcases cases2 i' x' h2 with ⟨rfl, rfl⟩ | ⟨f1, f3⟩
      · rw [hιb] at h4; cases h4
      · exact hs.inj i i' x x' k g3 f3 h3 h4

theorem bput_bput (l m : List (Nat × Option Bx)) : bput (bput box l) m = bput box (m ++ l) := by
  funext i
  induction m with
  | nil => rfl
  | cons p m ih => simp only [bput, List.cons_append]; split <;> simp_all

/-- append onto a slice of the call's own. -/
theorem y_append {o : Oper} {ρ : Operand → AV} {t e : TypeId} {s x : Operand} {b0 b k n m by' : Nat} {z : Value} {bx : Bx} {fpx : List (Nat × Bx)} {news : List AV} (ho : o.op = .call { callee := .builtin .append, args := #[s, x], argTypes := #[t, t] }) (ht : P.underlying t = some (.slice e))
    (hi : (P.info? e).map (fun i => (i.zero, i.size, i.bytes)) = some (some z, k, by')) (hzs : z.cells.size = k) (hk : 0 < k) (hs : ρ s = .osl b0 k 0 n) (hcs : bx.cs.length = n * k) (hbt : bx.t = e) (hx : IsSrc (ρ x) fpx k m news) (hb : b ≠ b0) (hbx : ∀ y, (b, y) ∉ fpx)
    (h63 : n + m ≤ maxLen) (hby : (n + m) * by' ≤ 140737488355328) : Yields P cx o ρ ⟨(b0, bx) :: fpx, .osl b k 0 (n + m), [(b0, none), (b, some ⟨e, bx.cs ++ news⟩)]⟩ := by
  obtain ⟨i0, hi0, hz0, hz1, hz2⟩ := info_parts hi
  subst hbt
  intro ι box used a w hh hdef hfp hfr hops K Q hK
  have hb0 : box b0 = some bx := hfp b0 bx (by simp)
  have hu : ¬ used b := by
    rcases hfr b ⟨bx.t, bx.cs ++ news⟩ (by simp) with ⟨y, hy⟩ | h
    · simp only [List.mem_cons, Prod.mk.injEq] at hy
      rcases hy with ⟨h, -⟩ | hy
      · exact absurd h hb
      · exact absurd hy (hbx y)
    · exact h
  have hvs := hops s (mem_ops ho (by simp [Op.operands, Call.operands]))
  have hvx := hops x (mem_ops ho (by simp [Op.operands, Call.operands]))
  rw [hs] at hvs
  obtain ⟨A, c, us, hxv, hul, hnl, hA0, hucell, hurep, huone⟩ := hx.rep hk hvx fun b x hb hne => by
    obtain ⟨g, h1, -, -, h4⟩ := hh.ne (hfp b x (List.mem_cons_of_mem _ hb)) hne
    exact ⟨g, h1, h4⟩
  have hlen2 : (bx.cs ++ news).length = (n + m) * k := by rw [List.length_append, hcs, hnl, Nat.add_mul]
  -- the ways it can go
  have fin : ∀ (v' : Value) (w' : World), (Builtin.append_ #[t, t] o.type #[a.eval s, a.eval x]).run P w = .ok v' w' → (∀ ι', Step cx ι box used w ι' (bput box [(b0, none), (b, some ⟨bx.t, bx.cs ++ news⟩)]) (fun i => used i ∨ i = b) w' → RepA ι' (Mof cx ι' (bput box [(b0, none), (b, some ⟨bx.t, bx.cs ++ news⟩)])) w' v' (.osl b k 0 (n + m)) → o.wp P a w K Q) := by
    intro v' w' hrun ι' hst hv
    unfold Oper.wp execOp
    simp only [ho, resolve, invoke, builtin, Sem.run_bind, Sem.run_pure, Result.andThen_ok, List.map_toArray, List.map_cons, List.map_nil, hrun]
    refine hK v' ι' w' (hst.umono ?_) hv
    rintro i (h | rfl)
    · exact .inl h
    · exact .inr ⟨some ⟨bx.t, bx.cs ++ news⟩, by simp⟩
  -- a new block
  have grow : ∀ (B : Option Addr) (cap : Nat) (C : Array Value), (Builtin.append_ #[t, t] o.type #[a.eval s, a.eval x]).run P w = .ok (.slice (some ⟨w.heap.size, 0, none⟩) (n + m) cap) (w.drew.alloc (.cells C bx.t)) → n + m ≤ cap → cap ≤ maxLen → C.size = cap * k →
      (∀ (j : Nat) (v : Value) (y : AV), C[j]? = some v → (bx.cs ++ news)[j]? = some y → v.oneCell' = true ∧ RepA ι (Mof cx ι box) w v y) → o.wp P a w K Q := by
    intro B cap C hrun h1 h2 h3 h4
    have s1 : Step cx ι box used w ι box used w.drew := step_heap hh rfl rfl rfl rfl
    have s2 := step_alloc s1.h (b := b) (bx := ⟨bx.t, bx.cs ++ news⟩) (c := C) hu (by show (bx.cs ++ news).length ≤ _; rw [hlen2, h3]; exact Nat.mul_le_mul_right _ h1) fun j v y hv hy => ⟨(h4 j v y hv hy).1, s1.keep _ _ (h4 j v y hv hy).2⟩
    have s3 := step_kill s2.h b0
    have s4 := (s1.trans s2).trans s3
    rw [bput_bput] at s4
    refine fin _ _ hrun _ (s4.umono ?_) (.osl (g := w.heap.size) ?_ h1 h2 (heap_alloc_new w.drew _) (by rw [h3]; simp))
    · rintro i (h | ⟨r, h⟩)
      · exact .inl h
      · simp at h; exact .inr h.1
    · simp [iput]
  rcases hvs.osl' with ⟨g, cap, cur, ty, hsv, hg, hnc, hcm, hheap, hsz⟩ | ⟨rfl, B, hsv⟩
  · obtain ⟨g', hg', hgb, hgM, cur', hcur, hcl, hcc⟩ : ∃ g, ι b0 = some g ∧ (cx.base ≤ g ∨ cx.G g) ∧ ¬ cx.M0 g ∧ BoxRep ι (Mof cx ι box) w g bx := by
      rcases hh.own b0 bx hb0 with ⟨-, h⟩ | h
      · rw [hg] at h; cases h
      · exact h
    rw [hg] at hg'
    injection hg' with hg'
    subst hg'
    rw [hheap] at hcur
    injection hcur with hcur
    injection hcur with e1 e2
    subst e1 e2
    simp only [Nat.zero_add] at hsz
    -- what the cells were
    have hold : ∀ (j : Nat) (v : Value) (y : AV), (cur.toList.take (n * k))[j]? = some v → bx.cs[j]? = some y → v.oneCell' = true ∧ RepA ι (Mof cx ι box) w v y := fun j v y hv hy => by
      rw [List.getElem?_take] at hv
      split at hv
      · exact hcc j v y (by simpa using hv) hy
      · cases hv
    have hnk : n * k ≤ cur.size := by rw [← hsz]; exact Nat.mul_le_mul_right _ hnc
    have hboth : ∀ (l : List Value), l = cur.toList.take (n * k) ++ us → ∀ (j : Nat) (v : Value) (y : AV), l[j]? = some v → (bx.cs ++ news)[j]? = some y → v.oneCell' = true ∧ RepA ι (Mof cx ι box) w v y := by
      rintro l rfl j v y hv hy
      have ht0 : (cur.toList.take (n * k)).length = n * k := by simp; omega
      by_cases hj : j < n * k
      · rw [List.getElem?_append_left (by omega)] at hv hy
        exact hold j v y hv hy
      · rw [List.getElem?_append_right (by omega), ht0] at hv
        rw [List.getElem?_append_right (by omega), hcs] at hy
        exact ⟨huone v (List.mem_of_getElem? hv), hurep _ _ _ hv hy⟩
    by_cases hroom : n + m ≤ cap
    · have hfit : n * k + us.length ≤ cur.size := by rw [hul, ← hsz, ← Nat.add_mul]; exact Nat.mul_le_mul_right _ hroom
      have hrun : ∃ C : Array Value, (Builtin.append_ #[t, t] o.type #[a.eval s, a.eval x]).run P w = .ok (.slice (some ⟨g, 0, none⟩) (n + m) cap) (w.setRow g C) ∧ C.size = cur.size ∧ ∀ (j : Nat) (v : Value), C[j]? = some v → j < (n + m) * k → (cur.toList.take (n * k) ++ us)[j]? = some v := by
        cases A with
        | none =>
          have hm0 := hA0 rfl
          subst hm0
          have hnil : us = [] := List.eq_nil_of_length_eq_zero (by simpa using hul)
          subst hnil
          refine ⟨cur, ?_, rfl, fun j v hv hj => ?_⟩
          · rw [hsv, hxv, setRow_self w g cur _ _ hheap]
            simp [Builtin.append_, run_underlying ht, sizeOf, typeInfo, hi0, Builtin.lenOf, Builtin.firstCells, hnc, storeCells]
          · rw [List.append_nil, List.getElem?_take, if_pos (by simpa using hj)]; simpa using hv
        | some ad =>
          subst hz1
          have hr := run_append_room (P := P) w t o.type bx.t i0 ht hi0 g n cap cur hheap ad m c us hul (hucell ad rfl) huone hroom hfit
          refine ⟨_, by rw [hsv, hxv]; exact hr, by simp; omega, fun j v hv hj => ?_⟩
          simp only [List.getElem?_toArray] at hv
          rw [List.getElem?_append_left (by simp; rw [hul, Nat.min_eq_left hnk, ← Nat.add_mul]; exact hj)] at hv
          exact hv
      obtain ⟨C, hrun, hC, hCc⟩ := hrun
      have s1 := step_row hh (bx' := ⟨bx.t, bx.cs ++ news⟩) hb0 hg hheap hC (by show (bx.cs ++ news).length ≤ _; rw [hlen2, hC, ← hsz]; exact Nat.mul_le_mul_right _ hroom) rfl (by
        intro j v y hv hy
        have hj : j < (n + m) * k := by rw [← hlen2]; exact (List.getElem?_eq_some_iff.1 hy).1
        exact hboth _ rfl j v y (hCc j v hv hj) hy)
      have hu1 : ¬ (used b ∨ ∃ r, (b, r) ∈ [(b0, some (⟨bx.t, bx.cs ++ news⟩ : Bx))]) := by
        rintro (h | ⟨r, h⟩)
        · exact hu h
        · simp at h; exact hb h.1
      have s2 := step_name s1.h (b0 := b0) (b := b) (g := g) (bx := ⟨bx.t, bx.cs ++ news⟩) (by simp [bput]) hg hu1
      have s3 := s1.trans s2
      have hbe : bput (bput box [(b0, some ⟨bx.t, bx.cs ++ news⟩)]) [(b0, none), (b, some ⟨bx.t, bx.cs ++ news⟩)] = bput box [(b0, none), (b, some ⟨bx.t, bx.cs ++ news⟩)] := by
        funext i
        simp only [bput]
        by_cases h0 : i = b0
        · simp [h0]
        · by_cases h1 : i = b <;> simp [h0, h1]
      rw [hbe] at s3
      refine fin _ _ hrun _ (s3.umono ?_) (.osl (g := g) (by simp [iput]) hroom hcm (setRow_heap w g cur C _ _ hheap) (by rw [hC]; omega))
      rintro i ((h | ⟨r, h⟩) | h)
      · exact .inl h
      · simp at h; rw [h.1]; exact .inl (hh.ub b0 bx hb0)
      · exact .inr h
    · cases A with
      | none => have := hA0 rfl; omega
      | some ad =>
        subst hz1
        have hlo : (cur.toList.take (n * i0.size)).length = n * i0.size := by simp; omega
        have hr := run_append_grow (P := P) w t o.type bx.t i0 z ht hi0 hz0 ⟨g, 0, none⟩ n cap (cur.toList.take (n * i0.size)) hlo (fun j u hj => by
          rw [addr_add', Nat.zero_add, cell_of_row _ _ _ _ _ _ hheap]
          rw [List.getElem?_take] at hj
          split at hj
          · simpa using hj
          · cases hj) ad m c us hul (hucell ad rfl) (by omega) (by simp only [maxLen] at h63; omega) (growslice_fits (by omega) (by rw [hz2]; exact hby))
        have hge := grownCap_ge w (n + m) cap bx.t
        have hcmx : grownCap w (n + m) cap bx.t ≤ maxLen := grownCap_le_maxLen w (n + m) cap bx.t h63
        refine grow none _ _ (by rw [hsv, hxv]; exact hr) hge hcmx ?_ ?_
        · simp only [Array.size_append, List.size_toArray, size_zeroCells, hzs, hlo, hul, ← Nat.add_mul]
          congr 1
          omega
        · intro j v y hv hy
          have hj : j < (n + m) * i0.size := by rw [← hlen2]; exact (List.getElem?_eq_some_iff.1 hy).1
          rw [Array.getElem?_append_left (by simp only [Array.size_append, List.size_toArray, hlo, hul, ← Nat.add_mul]; exact hj)] at hv
          exact hboth _ rfl j v y (by simpa using hv) hy
  · have hcs0 : bx.cs = [] := List.eq_nil_of_length_eq_zero (by simpa using hcs)
    cases A with
    | none =>
      have hm0 := hA0 rfl
      subst hm0
      have hnil : news = [] := List.eq_nil_of_length_eq_zero (by simpa using hnl)
      subst hnil
      have s1 := step_empty hh (b := b) (t := bx.t) hu
      have s2 := s1.trans (step_kill s1.h b0)
      rw [bput_bput] at s2
      refine fin (.slice B 0 0) w ?_ ι ?_ (.osl0 B b k 0)
      · rw [hsv, hxv]
        cases B <;> simp [Builtin.append_, run_underlying ht, sizeOf, typeInfo, hi0, Builtin.lenOf, Builtin.firstCells, storeCells]
      · rw [hcs0]; exact s2
    | some ad =>
      by_cases hm0 : m = 0
      · subst hm0
        have hnil : news = [] := List.eq_nil_of_length_eq_zero (by simpa using hnl)
        subst hnil
        have s1 := step_empty hh (b := b) (t := bx.t) hu
        have s2 := s1.trans (step_kill s1.h b0)
        rw [bput_bput] at s2
        refine fin (.slice B 0 0) w ?_ ι ?_ (.osl0 B b k 0)
        · rw [hsv, hxv]
          cases B <;> simp [Builtin.append_, run_underlying ht, sizeOf, typeInfo, hi0, Builtin.lenOf, Builtin.firstCells, storeCells, loadCells, loadCellsFrom]
        · rw [hcs0]; exact s2
      · subst hz1
        obtain ⟨cap, C, hr, h1, h2, h3, h4⟩ := run_full (P := P) (w := w) (ty := o.type) ht hi0 hz0 hzs B 0 [] (by simp) (fun _ => rfl) (by simp) ad m c us hul (hucell ad rfl) (by omega) h63 (by rw [hz2]; exact hby)
        refine grow none cap C (by rw [hsv, hxv]; exact hr) h1 h2 h3 fun j v y hv hy => ?_
        rw [hcs0, List.nil_append] at hy
        have hjl : j < us.length := by rw [hul, ← hnl]; exact (List.getElem?_eq_some_iff.1 hy).1
        have hju := h4 j us[j] (by rw [List.nil_append]; exact List.getElem?_eq_getElem hjl)
        rw [hv] at hju
        injection hju with hju
        subst hju
        exact ⟨huone _ (List.getElem_mem hjl), hurep j _ y (List.getElem?_eq_getElem hjl) hy⟩

theorem nil_sl {ι : Nat → Option Nat} {M : Nat → Prop} {w : World} {v : Value} {f : Bool} {k : Nat} (h : RepA ι M w v (.v (.slice none 0 0))) : RepA ι M w v (.sl f k []) := by
  rw [h.ofV]
  exact .d (.sl (b := 0) (off := 0) (x := fun _ _ => undef) rfl (Nat.le_refl _) (Nat.zero_le _) (fun _ => rfl) (by simp) (by simp) (by simp) (by simp))

/-- append onto a slice of nobody's that has no room. -/
theorem y_append_full {o : Oper} {ρ : Operand → AV} {t e : TypeId} {s x : Operand} {b k n m by' : Nat} {z : Value} {l : List (List AV)} {fpx : List (Nat × Bx)} {news : List AV} (ho : o.op = .call { callee := .builtin .append, args := #[s, x], argTypes := #[t, t] }) (ht : P.underlying t = some (.slice e))
    (hi : (P.info? e).map (fun i => (i.zero, i.size, i.bytes)) = some (some z, k, by')) (hzs : z.cells.size = k) (hk : 0 < k) (hs : ρ s = .sl true k l ∨ (ρ s = .v (.slice none 0 0) ∧ l = [])) (hn : l.length = n) (hx : IsSrc (ρ x) fpx k m news) (hbx : ∀ y, (b, y) ∉ fpx)
    (hm : 0 < m ∨ l = []) (h63 : n + m ≤ maxLen) (hby : (n + m) * by' ≤ 140737488355328) : Yields P cx o ρ ⟨fpx, .osl b k 0 (n + m), [(b, some ⟨e, l.flatten ++ news⟩)]⟩ := by
  obtain ⟨i0, hi0, hz0, hz1, hz2⟩ := info_parts hi
  intro ι box used a w hh hdef hfp hfr hops K Q hK
  have hu : ¬ used b := by
    rcases hfr b ⟨e, l.flatten ++ news⟩ (by simp) with ⟨y, hy⟩ | h
    · exact absurd hy (hbx y)
    · exact h
  have hvs : RepA ι (Mof cx ι box) w (a.eval s) (.sl true k l) := by
    have h := hops s (mem_ops ho (by simp [Op.operands, Call.operands]))
    rcases hs with hs | ⟨hs, rfl⟩
    · rw [hs] at h; exact h
    · rw [hs] at h; exact nil_sl h
  have hvx := hops x (mem_ops ho (by simp [Op.operands, Call.operands]))
  obtain ⟨A, c, us, hxv, hul, hnl, hA0, hucell, hurep, huone⟩ := hx.rep hk hvx fun b x hb hne => by
    obtain ⟨g, h1, -, -, h4⟩ := hh.ne (hfp b x hb) hne
    exact ⟨g, h1, h4⟩
  obtain ⟨B, cap0, us0, hsv, hul0, hnl0, hB0, hucell0, hurep0, huone0⟩ := (IsSrc.sl (f := true) (k := k) (l := l) hn).rep hk hvs (fun b x hb => by simp at hb)
  have hcap : cap0 = n := by
    obtain ⟨A', cap', h1, -, -, h4⟩ := hvs.sl'.sl_val
    rw [hsv] at h1
    injection h1 with _ h2 h3
    rw [h3, h4 rfl, hn]
  subst hcap
  have fin : ∀ (v' : Value) (w' : World), (Builtin.append_ #[t, t] o.type #[a.eval s, a.eval x]).run P w = .ok v' w' → (∀ ι', Step cx ι box used w ι' (bput box [(b, some ⟨e, l.flatten ++ news⟩)]) (fun i => used i ∨ i = b) w' → RepA ι' (Mof cx ι' (bput box [(b, some ⟨e, l.flatten ++ news⟩)])) w' v' (.osl b k 0 (cap0 + m)) → o.wp P a w K Q) := by
    intro v' w' hrun ι' hst hv
    unfold Oper.wp execOp
    simp only [ho, resolve, invoke, builtin, Sem.run_bind, Sem.run_pure, Result.andThen_ok, List.map_toArray, List.map_cons, List.map_nil, hrun]
    refine hK v' ι' w' (hst.umono ?_) hv
    rintro i (h | rfl)
    · exact .inl h
    · exact .inr ⟨some ⟨e, l.flatten ++ news⟩, by simp⟩
  have hempty : m = 0 → o.wp P a w K Q := by
    intro hm0
    subst hm0
    have hl0 : l = [] := by
      rcases hm with h | h
      · omega
      · exact h
    subst hl0
    simp at hn
    subst hn
    have hnil : news = [] := List.eq_nil_of_length_eq_zero (by simpa using hnl)
    subst hnil
    have s1 := step_empty hh (b := b) (t := e) hu
    refine fin (.slice B 0 0) w ?_ ι ?_ (.osl0 B b k 0)
    · rw [hsv, hxv]
      cases A <;> cases B <;> simp [Builtin.append_, run_underlying ht, sizeOf, typeInfo, hi0, Builtin.lenOf, Builtin.firstCells, storeCells, loadCells, loadCellsFrom]
    · simpa using s1
  cases A with
  | none => exact hempty (hA0 rfl)
  | some ad =>
    by_cases hm0 : m = 0
    · exact hempty hm0
    · subst hz1
      obtain ⟨cap, C, hr, h1, h2, h3, h4⟩ := run_full (P := P) (w := w) (ty := o.type) ht hi0 hz0 hzs B cap0 us0 hul0 hB0 hucell0 ad m c us hul (hucell ad rfl) (by omega) h63 (by rw [hz2]; exact hby)
      have hlen2 : (l.flatten ++ news).length = (cap0 + m) * i0.size := by rw [List.length_append, hnl0, hnl, Nat.add_mul]
      have s1 : Step cx ι box used w ι box used w.drew := step_heap hh rfl rfl rfl rfl
      have hC : ∀ (j : Nat) (v : Value) (y : AV), C[j]? = some v → (l.flatten ++ news)[j]? = some y → v.oneCell' = true ∧ RepA ι (Mof cx ι box) w v y := by
        intro j v y hv hy
        by_cases hj : j < cap0 * i0.size
        · have hju := h4 j us0[j] (by rw [List.getElem?_append_left (by omega)]; exact List.getElem?_eq_getElem (by omega))
          rw [hv] at hju
          injection hju with hju
          subst hju
          rw [List.getElem?_append_left (by omega)] at hy
          exact ⟨huone0 _ (List.getElem_mem _), hurep0 j _ y (List.getElem?_eq_getElem (by omega)) hy⟩
        · have hj2 : j < (cap0 + m) * i0.size := by rw [← hlen2]; exact (List.getElem?_eq_some_iff.1 hy).1
          rw [Nat.add_mul] at hj2
          have hju := h4 j (us[j - cap0 * i0.size]'(by omega)) (by rw [List.getElem?_append_right (by omega), hul0]; exact List.getElem?_eq_getElem (by omega))
          rw [hv] at hju
          injection hju with hju
          subst hju
          rw [List.getElem?_append_right (by omega), hnl0] at hy
          exact ⟨huone _ (List.getElem_mem _), hurep _ _ y (List.getElem?_eq_getElem (by omega)) hy⟩
      have s2 := step_alloc s1.h (b := b) (bx := ⟨e, l.flatten ++ news⟩) (c := C) hu (by show (l.flatten ++ news).length ≤ _; rw [hlen2, h3]; exact Nat.mul_le_mul_right _ h1) fun j v y hv hy => ⟨(hC j v y hv hy).1, s1.keep _ _ (hC j v y hv hy).2⟩
      refine fin _ _ (by rw [hsv, hxv]; exact hr) _ ((s1.trans s2).umono ?_) (.osl (g := w.heap.size) ?_ h1 h2 (heap_alloc_new w.drew _) (by rw [h3]; simp))
      · rintro i (h | ⟨r, h⟩)
        · exact .inl h
        · simp at h; exact .inr h.1
      · simp [iput]
end

end Go.Proofs.YtkonljmmdifnaaaGreat.V
set_option linter.unusedSimpArgs false
set_option linter.unusedVariables false
namespace Go.Proofs.YtkonljmmdifnaaaGreat.V
open Go.RowKit

section
variable {P : Program} {cx : Cx} {ι : Nat → Option Nat} {box : Nat → Option Bx} {used : Nat → Prop} {M : Nat → Prop} {w : World}

theorem evo_below {w w' : World} (hb : Below w.heap.size w w') : Evo w w' :=
  ⟨hb.size, fun g c t h => ⟨c, by rw [hb.block g (Array.getElem?_eq_some_iff.1 h).1]; exact h, rfl⟩⟩

/-- Behind a callee that leaves what was there alone. -/
theorem step_below (hs : HSat cx ι box used w) {w' : World} (hb : Below w.heap.size w w') : Step cx ι box used w ι box used w' := by
  have hev := evo_below hb
  have hk : ∀ v y, RepA ι (Mof cx ι box) w v y → RepA ι (Mof cx ι box) w' v y := fun v y h => RepA.keep (w := w) (w' := w') (fun _ _ h => h) (fun _ _ h => h) hev (fun g hg _ => hb.block g hg) h
  refine ⟨⟨⟨hb.os.trans hs.wi.os, hb.tape.trans hs.wi.tape, hb.output.trans hs.wi.output, hs.wi.evo.trans hev, hs.wi.oth.trans (fun g o h _ => by rw [hb.block g (Array.getElem?_eq_some_iff.1 h).1]; exact h), fun k hk hG => ?_⟩, hs.m0, hs.fix, fun b g hg => ⟨(hs.dom b g hg).1, Nat.lt_of_lt_of_le (hs.dom b g hg).2 hb.size⟩, hs.ub, ?_, hs.inj⟩, hk, fun g o h _ => by rw [hb.block g (Array.getElem?_eq_some_iff.1 h).1]; exact h⟩
  · rw [hb.block k (Nat.lt_of_lt_of_le hk hs.wi.evo.size)]
    exact hs.wi.block k hk hG
  · intro b x h
    rcases hs.own b x h with h | ⟨g, e1, e2, e3, c, e4, e5, e6⟩
    · exact .inl h
    · exact .inr ⟨g, e1, e2, e3, c, by rw [hb.block g (hs.dom b g e1).2]; exact e4, e5, fun j v y hv hy => ⟨(e6 j v y hv hy).1, hk _ _ (e6 j v y hv hy).2⟩⟩

/-- A contract over plain data: for arguments that read as these it hands back what reads as this, and leaves alone what was there. -/
def Fun (P : Program) (f : FuncId) (args : List AV) (x : AV) : Prop :=
  ∀ (M : Nat → Prop) (w : World) (vs : Array Value), (∀ g, M g → g < w.heap.size) → vs.size = args.length → (∀ (i : Nat) (v : Value) (y : AV), vs[i]? = some v → args[i]? = some y → RepD M w v y) →
    Calls P f vs w fun e w' => ∃ v, e = .returned v ∧ RepD M w' v x ∧ Below w.heap.size w w'

/-- What is of the call's own, as plain data: once nobody writes it any more. -/
inductive Frz (fp : List (Nat × Bx)) : AV → AV → Prop
  | data {y : AV} (h : y.isData = true) : Frz fp y y
  | less {k : Nat} {l : List (List AV)} : Frz fp (.sl true k l) (.sl false k l)
  | nil {f : Bool} {k : Nat} : Frz fp (.v (.slice none 0 0)) (.sl f k [])
  | osl {b k off n : Nat} {bx : Bx} {l : List (List AV)} (hb : (b, bx) ∈ fp) (hn : n = l.length) (hk : ∀ r, r ∈ l → r.length = k) (h0 : 0 < k) (hle : off + n * k ≤ bx.cs.length) (hf : ∀ (i : Nat) (x y : AV), ((bx.cs.drop off).take (n * k))[i]? = some x → l.flatten[i]? = some y → Frz fp x y) : Frz fp (.osl b k off n) (.sl false k l)
  | ptr {b off : Nat} {bx : Bx} {l : List AV} (hb : (b, bx) ∈ fp) (hle : off + l.length ≤ bx.cs.length) (hf : ∀ (i : Nat) (x y : AV), (bx.cs.drop off)[i]? = some x → l[i]? = some y → Frz fp x y) : Frz fp (.ptr b off) (.pp l)
  | fn {f : Fn} {l l' m m' : List AV} (hn : l.length = l'.length) (hm : m.length = m'.length) (h : ∀ (i : Nat) (x y : AV), l[i]? = some x → l'[i]? = some y → Frz fp x y) (h2 : ∀ (i : Nat) (x y : AV), m[i]? = some x → m'[i]? = some y → Frz fp x y) : Frz fp (.fn f l m) (.fn f l' m')
  | agg {l l' : List AV} (hn : l.length = l'.length) (h : ∀ (i : Nat) (x y : AV), l[i]? = some x → l'[i]? = some y → Frz fp x y) : Frz fp (.agg l) (.agg l')
  | tup {l l' : List AV} (hn : l.length = l'.length) (h : ∀ (i : Nat) (x y : AV), l[i]? = some x → l'[i]? = some y → Frz fp x y) : Frz fp (.tup l) (.tup l')

def kills (fp : List (Nat × Bx)) : List (Nat × Option Bx) := fp.map fun p => (p.1, none)

theorem bput_kills {fp : List (Nat × Bx)} {b : Nat} {x : Bx} (h : bput box (kills fp) b = some x) : box b = some x ∧ ∀ y, (b, y) ∉ fp := by
  induction fp with
  | nil => exact ⟨h, by simp⟩
  | cons p fp ih =>
    simp only [kills, List.map_cons, bput] at h
    by_cases hb : b = p.1
    · simp [hb] at h
    · rw [if_neg hb] at h
      obtain ⟨h1, h2⟩ := ih h
      refine ⟨h1, fun y hy => ?_⟩
      rcases List.mem_cons.1 hy with rfl | hy
      · exact hb rfl
      · exact h2 y hy

theorem flat_mem {k : Nat} (hk : 0 < k) : ∀ (l : List (List AV)) (i j : Nat) (row : List AV) (y : AV), (∀ r, r ∈ l → r.length = k) → l[i]? = some row → row[j]? = some y → l.flatten[i * k + j]? = some y
  | [], i, j, row, y, _, h, _ => by simp at h
  | r :: l, 0, j, row, y, hr, h, hy => by
    simp at h; subst h
    rw [List.flatten_cons, Nat.zero_mul, Nat.zero_add, List.getElem?_append_left (List.getElem?_eq_some_iff.1 hy).1]
    exact hy
  | r :: l, i + 1, j, row, y, hr, h, hy => by
    have hrk := hr r (by simp)
    rw [List.flatten_cons, List.getElem?_append_right (by rw [Nat.add_mul]; omega), show (i + 1) * k + j - r.length = i * k + j by rw [Nat.add_mul]; omega]
    exact flat_mem hk l i j row y (fun r h => hr r (by simp [h])) (by simpa using h) hy

theorem RepA.fn' {v : Value} {f : Fn} {lf lc : List AV} (h : RepA ι M w v (.fn f lf lc)) : ∃ fs cs : Array Value, v = .func f fs cs ∧ fs.size = lf.length ∧ cs.size = lc.length ∧ (∀ (i : Nat) (x : Value) (y : AV), fs[i]? = some x → lf[i]? = some y → RepA ι M w x y) ∧
    (∀ (i : Nat) (x : Value) (y : AV), cs[i]? = some x → lc[i]? = some y → RepA ι M w x y) := by
  cases h with
  | d h => cases h with
    | fn h1 h2 h3 h4 => exact ⟨_, _, rfl, h1, h2, fun i x y hx hy => .d (h3 i x y hx hy), fun i x y hx hy => .d (h4 i x y hx hy)⟩
  | fn h1 h2 h3 h4 => exact ⟨_, _, rfl, h1, h2, h3, h4⟩

theorem frz_rep (hs : HSat cx ι box used w) {fp : List (Nat × Bx)} (hfp : ∀ b x, (b, x) ∈ fp → box b = some x) {y x : AV} (hf : Frz fp y x) : ∀ {v : Value}, RepA ι (Mof cx ι box) w v y → RepD (Mof cx ι (bput box (kills fp))) w v x := by
  have hM : ∀ g, Mof cx ι (bput box (kills fp)) g → Mof cx ι box g := fun g => Mof.mono fun b x h => (bput_kills h).1
  have hD : ∀ {v : Value} {y : AV}, RepA ι (Mof cx ι box) w v y → y.isData = true → RepD (Mof cx ι (bput box (kills fp))) w v y := fun h hy => (h.less hM).toD hy
  have hnoM : ∀ b bx g, (b, bx) ∈ fp → ι b = some g → ¬ cx.M0 g → ¬ Mof cx ι (bput box (kills fp)) g := by
    rintro b bx g hb hg hgM (h | ⟨i, x, h1, h2⟩)
    · exact hgM h
    · obtain ⟨h3, h4⟩ := bput_kills h1
      have := hs.inj i b x bx g h3 (hfp b bx hb) h2 hg
      subst this
      exact h4 bx hb
  induction hf with
  | data h => exact fun hv => hD hv h
  | less =>
    intro v hv
    have h := hD hv (isData_sl _ _ _)
    cases h with
    | sl b off x hn hc hm hf hk hA hl hx => exact .sl b off x hn hc hm (by simp) hk hA hl hx
  | nil =>
    intro v hv
    exact (nil_sl (hv.less hM)).sl'
  | @osl b k off n bx l hb hn hk h0 hle hf ih =>
    intro v hv
    rcases hv.osl' with ⟨g, cap, c, t, rfl, hg, hnc, hcm, hh, hsz⟩ | ⟨rfl, A, rfl⟩
    · rcases hs.own b bx (hfp b bx hb) with ⟨hcs, hno⟩ | ⟨g', hg', hgb, hgM, c', hc', hlen, hcc⟩
      · rw [hg] at hno; cases hno
      · rw [hg] at hg'
        injection hg' with hg'
        subst hg'
        rw [hh] at hc'
        injection hc' with hc'
        injection hc' with e1 e2
        subst e1
        have hgM' := hnoM b bx g hb hg hgM
        have hcell : ∀ i j, i < l.length → j < k → off + i * k + j < bx.cs.length := fun i j hi hj => by
          have : (i + 1) * k ≤ n * k := Nat.mul_le_mul_right _ (by omega)
          rw [Nat.add_mul] at this
          omega
        refine .sl g off (fun i j => c.getD (off + i * k + j) undef) hn hnc hcm (by simp) hk (fun _ => ⟨rfl, hgM', (hs.dom b g hg).2⟩) (fun i j hi hj => ?_) (fun i row j y hr hy => ?_)
        · have h1 := hcell i j hi hj
          have h2 : off + i * k + j < c.size := by omega
          rw [cell_of_row _ _ _ _ _ _ hh, Array.getD_eq_getD_getElem?, Array.getElem?_eq_getElem h2]
          exact ⟨rfl, (hcc _ _ _ (Array.getElem?_eq_getElem h2) (List.getElem?_eq_getElem h1)).1⟩
        · have hi := (List.getElem?_eq_some_iff.1 hr).1
          have hrk := hk row (List.mem_of_getElem? hr)
          have hj : j < k := by have := (List.getElem?_eq_some_iff.1 hy).1; omega
          have h1 := hcell i j hi hj
          have h2 : off + i * k + j < c.size := by omega
          have hfl := flat_mem h0 l i j row y hk hr hy
          have hlt : i * k + j < n * k := by
            have : (i + 1) * k ≤ n * k := Nat.mul_le_mul_right _ (by omega)
            rw [Nat.add_mul] at this
            omega
          have hx : ((bx.cs.drop off).take (n * k))[i * k + j]? = some bx.cs[off + i * k + j] := by
            rw [List.getElem?_take, if_pos hlt, List.getElem?_drop, ← Nat.add_assoc, List.getElem?_eq_getElem h1]
          have := (hcc _ _ _ (Array.getElem?_eq_getElem h2) (List.getElem?_eq_getElem h1)).2
          rw [Array.getD_eq_getD_getElem?, Array.getElem?_eq_getElem h2]
          exact ih _ _ y hx hfl this
    · have hl : l = [] := List.eq_nil_of_length_eq_zero hn.symm
      subst hl
      exact .sl (b := 0) (off := 0) (x := fun _ _ => undef) rfl (Nat.le_refl _) (Nat.zero_le _) (by simp) (by simp) (by simp) (by simp) (by simp)
  | @ptr b off bx l hb hle hf ih =>
    intro v hv
    obtain ⟨g, hg, rfl⟩ := hv.ptr'
    rcases hs.own b bx (hfp b bx hb) with ⟨hcs, hno⟩ | ⟨g', hg', hgb, hgM, c, hc, hlen, hcc⟩
    · rw [hg] at hno; cases hno
    · rw [hg] at hg'
      injection hg' with hg'
      subst hg'
      refine .pp (fun j => c.getD (off + j) undef) (hnoM b bx g hb hg hgM) (hs.dom b g hg).2 (fun j hj => ?_) (fun j y hy => ?_)
      · have h2 : off + j < c.size := by omega
        have h1 : off + j < bx.cs.length := by omega
        rw [cell_of_row _ _ _ _ _ _ hc, Array.getD_eq_getD_getElem?, Array.getElem?_eq_getElem h2]
        exact ⟨rfl, (hcc _ _ _ (Array.getElem?_eq_getElem h2) (List.getElem?_eq_getElem h1)).1⟩
      · have hj := (List.getElem?_eq_some_iff.1 hy).1
        have h2 : off + j < c.size := by omega
        have h1 : off + j < bx.cs.length := by omega
        have hx : (bx.cs.drop off)[j]? = some bx.cs[off + j] := by rw [List.getElem?_drop, List.getElem?_eq_getElem h1]
        have := (hcc _ _ _ (Array.getElem?_eq_getElem h2) (List.getElem?_eq_getElem h1)).2
        rw [Array.getD_eq_getD_getElem?, Array.getElem?_eq_getElem h2]
        exact ih _ _ y hx hy this
  | fn hn hm _ _ ih1 ih2 =>
    intro v hv
    obtain ⟨fs, cs, rfl, e1, e2, e3, e4⟩ := hv.fn'
    refine .fn (e1.trans hn) (e2.trans hm) (fun i u y hu hy => ?_) (fun i u y hu hy => ?_)
    · have hi := (Array.getElem?_eq_some_iff.1 hu).1
      have hl := List.getElem?_eq_getElem (show i < _ from by rw [← e1]; exact hi)
      exact ih1 i _ y hl hy (e3 i u _ hu hl)
    · have hi := (Array.getElem?_eq_some_iff.1 hu).1
      have hl := List.getElem?_eq_getElem (show i < _ from by rw [← e2]; exact hi)
      exact ih2 i _ y hl hy (e4 i u _ hu hl)
  | agg hn _ ih =>
    intro v hv
    obtain ⟨vs, rfl, hs', hh⟩ := hv.agg'
    refine .agg (hs'.trans hn) fun i u y hu hy => ?_
    have hi := (Array.getElem?_eq_some_iff.1 hu).1
    have hl := List.getElem?_eq_getElem (show i < _ from by rw [← hs']; exact hi)
    exact ih i _ y hl hy (hh i u _ hu hl)
  | tup hn _ ih =>
    intro v hv
    obtain ⟨vs, rfl, hs', hh⟩ := hv.tup'
    refine .tup (hs'.trans hn) fun i u y hu hy => ?_
    have hi := (Array.getElem?_eq_some_iff.1 hu).1
    have hl := List.getElem?_eq_getElem (show i < _ from by rw [← hs']; exact hi)
    exact ih i _ y hl hy (hh i u _ hu hl)

theorem step_kills (hs : HSat cx ι box used w) (fp : List (Nat × Bx)) : Step cx ι box used w ι (bput box (kills fp)) used w := by
  induction fp with
  | nil => exact Step.refl hs
  | cons p fp ih =>
    have := ih.trans (step_kill ih.h p.1)
    rw [bput_bput] at this
    exact this

/-- A function that can be called by its number. -/
def Callable (P : Program) (f : FuncId) : Prop := ∀ vs w, (callFunc f vs).run P w = .ok (.enter f vs) w

/-- What a call operation comes to: function f at l. -/
def Enters (P : Program) (o : Oper) (ρ : Operand → AV) (f : FuncId) (l : List AV) : Prop :=
  Callable P f → ∀ (ι : Nat → Option Nat) (M : Nat → Prop) (a : Act) (w : World), (∀ y, y ∈ o.op.operands → RepA ι M w (a.eval y) (ρ y)) →
    ∃ vs : Array Value, (execOp a.eval o).run P w = .ok (.enter f vs) w ∧ vs.size = l.length ∧ ∀ (i : Nat) (v : Value) (y : AV), vs[i]? = some v → l[i]? = some y → RepA ι M w v y

theorem enters_static {o : Oper} {ρ : Operand → AV} {f : FuncId} {args : Array Operand} {ats : Array TypeId} (ho : o.op = .call { callee := .value (.func f), args := args, argTypes := ats }) : Enters P o ρ f (args.toList.map ρ) := by
  intro hc ι M a w hops
  refine ⟨args.map a.eval, ?_, by simp, fun i v y hv hy => ?_⟩
  · have h1 := hc (args.map a.eval) w
    simp [execOp, ho, resolve, invoke, Act.eval, Deferred.ofValue, h1]
  · simp only [Array.getElem?_map, Option.map_eq_some_iff, List.getElem?_map, Array.getElem?_toList] at hv hy
    obtain ⟨p, hp, rfl⟩ := hv
    obtain ⟨q, hq, rfl⟩ := hy
    rw [hp] at hq
    injection hq with hq
    subst hq
    exact hops p (mem_ops ho (by
      simp only [Op.operands, Call.operands]
      exact Array.mem_append.2 (.inr (Array.mem_of_getElem? hp))))

theorem rep_append {vs us : Array Value} {l m : List AV} (h1 : vs.size = l.length) (h2 : ∀ (i : Nat) (v : Value) (y : AV), vs[i]? = some v → l[i]? = some y → RepA ι M w v y) (h4 : ∀ (i : Nat) (v : Value) (y : AV), us[i]? = some v → m[i]? = some y → RepA ι M w v y) :
    ∀ (i : Nat) (v : Value) (y : AV), (vs ++ us)[i]? = some v → (l ++ m)[i]? = some y → RepA ι M w v y := by
  intro i v y hv hy
  by_cases hi : i < vs.size
  · rw [Array.getElem?_append_left hi] at hv
    rw [List.getElem?_append_left (by omega)] at hy
    exact h2 i v y hv hy
  · rw [Array.getElem?_append_right (by omega)] at hv
    rw [List.getElem?_append_right (by omega), ← h1] at hy
    exact h4 _ v y hv hy

theorem enters_value {o : Oper} {ρ : Operand → AV} {c : Operand} {f : FuncId} {first caps : List AV} {args : Array Operand} {ats : Array TypeId} (ho : o.op = .call { callee := .value c, args := args, argTypes := ats }) (hf : ρ c = .fn (.func f) first caps) :
    Enters P o ρ f (first ++ args.toList.map ρ ++ caps) := by
  intro hc ι M a w hops
  have h1 := hops c (mem_ops ho (by simp [Op.operands, Call.operands]))
  rw [hf] at h1
  obtain ⟨fs, cs, hv, e1, e2, e3, e4⟩ := h1.fn'
  refine ⟨fs ++ args.map a.eval ++ cs, ?_, by simp [e1, e2], ?_⟩
  · have h1 := hc (fs ++ args.map a.eval ++ cs) w
    simp [execOp, ho, resolve, invoke, hv, Deferred.ofValue] at h1 ⊢
    exact h1
  · refine rep_append (by simp [e1]) (rep_append e1 e3 ?_) e4
    intro i v y hv hy
    simp only [Array.getElem?_map, Option.map_eq_some_iff, List.getElem?_map, Array.getElem?_toList] at hv hy
    obtain ⟨p, hp, rfl⟩ := hv
    obtain ⟨q, hq, rfl⟩ := hy
    rw [hp] at hq
    injection hq with hq
    subst hq
    exact hops p (mem_ops ho (by
      simp only [Op.operands, Call.operands]
      exact Array.mem_append.2 (.inr (Array.mem_of_getElem? hp))))

theorem enters_v {o : Oper} {ρ : Operand → AV} {c : Operand} {f : FuncId} {args : Array Operand} {ats : Array TypeId} (ho : o.op = .call { callee := .value c, args := args, argTypes := ats }) (hf : ρ c = .v (.func (.func f) #[] #[])) :
    Enters P o ρ f (args.toList.map ρ) := by
  intro hc ι M a w hops
  have h1 := hops c (mem_ops ho (by simp [Op.operands, Call.operands]))
  rw [hf] at h1
  have hv := h1.ofV
  refine ⟨args.map a.eval, ?_, by simp, ?_⟩
  · have h1 := hc (args.map a.eval) w
    simp [execOp, ho, resolve, invoke, hv, Deferred.ofValue] at h1 ⊢
    exact h1
  · intro i v y hv hy
    simp only [Array.getElem?_map, Option.map_eq_some_iff, List.getElem?_map, Array.getElem?_toList] at hv hy
    obtain ⟨p, hp, rfl⟩ := hv
    obtain ⟨q, hq, rfl⟩ := hy
    rw [hp] at hq
    injection hq with hq
    subst hq
    exact hops p (mem_ops ho (by
      simp only [Op.operands, Call.operands]
      exact Array.mem_append.2 (.inr (Array.mem_of_getElem? hp))))

theorem mof_lt (hh : HSat cx ι box used w) {g : Nat} (h : Mof cx ι box g) : g < w.heap.size := by
  rcases h with h | ⟨b, x, _, h⟩
  · have h1 := hh.m0 g h
    have h2 := hh.wi.evo.size
    simp only [Cx.base] at h1
    omega
  · exact (hh.dom b g h).2

/-- The call of a function that is known by its contract. -/
theorem y_call {o : Oper} {ρ : Operand → AV} {f : FuncId} {l : List AV} {fp : List (Nat × Bx)} {xs : List AV} {x : AV} (ho : Enters P o ρ f l) (hc : Callable P f) (hF : Fun P f xs x)
    (hn : l.length = xs.length) (hfz : ∀ (i : Nat) (p y : AV), l[i]? = some p → xs[i]? = some y → Frz fp p y) : Yields P cx o ρ ⟨fp, x, kills fp⟩ := by
  intro ι box used a w hh hdef hfp hfr hops K Q hK
  have s1 := step_kills hh fp
  obtain ⟨vs, hex, hsz, hvs⟩ := ho hc ι _ a w hops
  have hcall := hF (Mof cx ι (bput box (kills fp))) w vs (fun g h => mof_lt s1.h h) (hsz.trans hn) fun i v y hv hy => by
    have hi := (Array.getElem?_eq_some_iff.1 hv).1
    have hl := List.getElem?_eq_getElem (l := l) (show i < l.length by omega)
    exact frz_rep hh hfp (hfz i _ y hl hy) (hvs i v _ hv hl)
  unfold Oper.wp
  rw [hex, Oper.upon_enter]
  refine hcall.mono ?_
  rintro e w' ⟨v, rfl, hv, hb⟩
  have s2 := step_below s1.h hb
  exact hK v ι w' ((s1.trans s2).umono fun b hb => .inl hb) (.d hv)

/-- Data that lies in no memory. -/
def AV.flat0 : AV → Bool
  | .v _ => true
  | .agg l => l.attach.all fun ⟨x, _⟩ => x.flat0
  | .tup l => l.attach.all fun ⟨x, _⟩ => x.flat0
  | _ => false

theorem RepD.flat0 {M' : Nat → Prop} {w' : World} {v : Value} {x : AV} (h : RepD M w v x) (hx : x.flat0 = true) : RepD M' w' v x := by
  induction h with
  | v x => exact .v x
  | sl => simp [AV.flat0] at hx
  | pp => simp [AV.flat0] at hx
  | mp => simp [AV.flat0] at hx
  | fn => simp [AV.flat0] at hx
  | agg hn _ ih =>
    rw [AV.flat0] at hx
    simp only [List.all_eq_true, List.mem_attach, forall_const, Subtype.forall] at hx
    exact .agg hn fun i x y h1 h2 => ih i x y h1 h2 (hx _ (List.mem_of_getElem? h2))
  | tup hn _ ih =>
    rw [AV.flat0] at hx
    simp only [List.all_eq_true, List.mem_attach, forall_const, Subtype.forall] at hx
    exact .tup hn fun i x y h1 h2 => ih i x y h1 h2 (hx _ (List.mem_of_getElem? h2))

/-- The same, where nothing of memory is handed back: what was lent stays the call's own. -/
theorem y_lend {o : Oper} {ρ : Operand → AV} {f : FuncId} {l : List AV} {fp : List (Nat × Bx)} {xs : List AV} {x : AV} (ho : Enters P o ρ f l) (hc : Callable P f) (hF : Fun P f xs x) (hx : x.flat0 = true)
    (hn : l.length = xs.length) (hfz : ∀ (i : Nat) (p y : AV), l[i]? = some p → xs[i]? = some y → Frz fp p y) : Yields P cx o ρ ⟨fp, x, []⟩ := by
  intro ι box used a w hh hdef hfp hfr hops K Q hK
  have s1 := step_kills hh fp
  obtain ⟨vs, hex, hsz, hvs⟩ := ho hc ι _ a w hops
  have hcall := hF (Mof cx ι (bput box (kills fp))) w vs (fun g h => mof_lt s1.h h) (hsz.trans hn) fun i v y hv hy => by
    have hi := (Array.getElem?_eq_some_iff.1 hv).1
    have hl := List.getElem?_eq_getElem (l := l) (show i < l.length by omega)
    exact frz_rep hh hfp (hfz i _ y hl hy) (hvs i v _ hv hl)
  unfold Oper.wp
  rw [hex, Oper.upon_enter]
  refine hcall.mono ?_
  rintro e w' ⟨v, rfl, hv, hb⟩
  have s2 := step_below hh hb
  exact hK v ι w' (s2.umono fun b hb => .inl hb) (.d (hv.flat0 hx))

/-! ### No slice is longer than may be -/

def AV.lens : AV → Bool
  | .sl _ _ l => decide (l.length ≤ maxLen) && l.attach.all fun ⟨row, _⟩ => row.attach.all fun ⟨y, _⟩ => y.lens
  | .osl _ _ _ n => decide (n ≤ maxLen)
  | .agg l => l.attach.all fun ⟨x, _⟩ => x.lens
  | .tup l => l.attach.all fun ⟨x, _⟩ => x.lens
  | _ => true
decreasing_by
  · rename_i h1 h2
    have := List.sizeOf_lt_of_mem h1
    have := List.sizeOf_lt_of_mem h2
    simp; omega
  · rename_i h; have := List.sizeOf_lt_of_mem h; simp; omega
  · rename_i h; have := List.sizeOf_lt_of_mem h; simp; omega

@[simp] theorem lens_v (x : Value) : (AV.v x).lens = true := by simp [AV.lens]
@[simp] theorem lens_bit (p : Prop) : (AV.bit p).lens = true := by simp [AV.lens]
@[simp] theorem lens_mp (es : Array MapEntry) (c : Nat) : (AV.mp es c).lens = true := by simp [AV.lens]
@[simp] theorem lens_any : AV.any.lens = true := by simp [AV.lens]
@[simp] theorem lens_ptr (b o : Nat) : (AV.ptr b o).lens = true := by simp [AV.lens]
@[simp] theorem lens_pp (l : List AV) : (AV.pp l).lens = true := by simp [AV.lens]
@[simp] theorem lens_fn (f : Fn) (l m : List AV) : (AV.fn f l m).lens = true := by simp [AV.lens]
@[simp] theorem lens_iface (t : TypeId) (x : AV) : (AV.iface t x).lens = true := by simp [AV.lens]
@[simp] theorem lens_iff (c : Bool) (x : AV) : (AV.iff c x).lens = true := by simp [AV.lens]
@[simp] theorem lens_osl (b k o n : Nat) : (AV.osl b k o n).lens = decide (n ≤ maxLen) := by simp [AV.lens]
@[simp] theorem lens_sl (f : Bool) (k : Nat) (l : List (List AV)) : (AV.sl f k l).lens = (decide (l.length ≤ maxLen) && l.all fun row => row.all AV.lens) := by
  rw [AV.lens]; simp [List.all_eq, List.attach]
@[simp] theorem lens_agg (l : List AV) : (AV.agg l).lens = l.all AV.lens := by
  rw [AV.lens]; simp [List.all_eq, List.attach]
@[simp] theorem lens_tup (l : List AV) : (AV.tup l).lens = l.all AV.lens := by
  rw [AV.lens]; simp [List.all_eq, List.attach]

theorem all_of_get {l : List AV} (h : ∀ (i : Nat) (y : AV), l[i]? = some y → y.lens = true) : l.all AV.lens = true := by
  rw [List.all_eq_true]
  intro y hy
  obtain ⟨i, hi⟩ := List.mem_iff_getElem?.1 hy
  exact h i y hi

theorem RepD.lens {v : Value} {a : AV} (h : RepD M w v a) : a.lens = true := by
  induction h with
  | v => simp
  | pp => simp
  | mp => simp
  | fn => simp
  | @sl A n cap full k l b off x hn hc hm hf hk hA hl hx ih =>
    rw [lens_sl, Bool.and_eq_true]
    refine ⟨by simp; omega, ?_⟩
    rw [List.all_eq_true]
    intro row hr
    obtain ⟨i, hi⟩ := List.mem_iff_getElem?.1 hr
    exact all_of_get fun j y hy => ih i row j y hi hy
  | @agg vs l hn h ih =>
    rw [lens_agg]
    refine all_of_get fun i y hy => ?_
    have := (List.getElem?_eq_some_iff.1 hy).1
    exact ih i _ y (Array.getElem?_eq_getElem (by omega)) hy
  | @tup vs l hn h ih =>
    rw [lens_tup]
    refine all_of_get fun i y hy => ?_
    have := (List.getElem?_eq_some_iff.1 hy).1
    exact ih i _ y (Array.getElem?_eq_getElem (by omega)) hy

theorem RepA.lens {v : Value} {a : AV} (h : RepA ι M w v a) : a.lens = true := by
  induction h with
  | d h => exact h.lens
  | osl h h1 h2 => simp; omega
  | @agg vs l hn h ih =>
    rw [lens_agg]
    refine all_of_get fun i y hy => ?_
    have := (List.getElem?_eq_some_iff.1 hy).1
    exact ih i _ y (Array.getElem?_eq_getElem (by omega)) hy
  | @tup vs l hn h ih =>
    rw [lens_tup]
    refine all_of_get fun i y hy => ?_
    have := (List.getElem?_eq_some_iff.1 hy).1
    exact ih i _ y (Array.getElem?_eq_getElem (by omega)) hy
  | _ => simp

/-! ### The end of a body -/

inductive ResIs (P : Program) (A : AS) : ResultVar → AV → Prop
  | tmp (t : Tmp) : ResIs P A (.tmp t) (A.env t)
  | cell {a : Tmp} {t : TypeId} {ag : Bool} {n b off : Nat} {bx : Bx} {y : AV} (ha : A.env a = .ptr b off) (hb : A.box b = some bx) (hne : bx.cs ≠ []) (h1 : ∀ w, (isAgg t).run P w = .ok ag w) (h2 : ∀ w, (sizeOf t).run P w = .ok n w) (hx : ldAV ag n off bx.cs = some y) : ResIs P A (.cell a t) y

def resOf (tmps : Array Value) : ResultVar → Sem Value
  | .tmp t => pure (tmps.getD t undef)
  | .cell a t => do loadVar t (← asAddr (tmps.getD a undef))

theorem results_eq (fn : Func) (tmps : Array Value) : results fn tmps = (do let vs ← fn.results.mapM (resOf tmps); pure (if h : vs.size = 1 then vs[0] else .tuple vs)) := by
  unfold results
  congr 1

theorem run_res {A : AS} {tmps : Array Value} {r : ResultVar} {y : AV} (hs : HSat cx ι A.box A.used w) (henv : ∀ t, RepA ι (Mof cx ι A.box) w (tmps.getD t undef) (A.env t)) (hr : ResIs P A r y) : ∃ v, (resOf tmps r).run P w = .ok v w ∧ RepA ι (Mof cx ι A.box) w v y := by
  cases hr with
  | tmp t => exact ⟨_, rfl, henv t⟩
  | @cell p t ag n b off bx y ha hb hne h1 h2 hx =>
    have hp := henv p
    rw [ha] at hp
    obtain ⟨g, hg, hv⟩ := hp.ptr'
    obtain ⟨g', hg', -, -, c, hc, hlen, hcs⟩ := hs.ne hb hne
    rw [hg] at hg'
    injection hg' with hg'
    subst hg'
    obtain ⟨v, hr, hvx⟩ := run_ld (P := P) (w := w) (ι := ι) (M := Mof cx ι A.box) (g := g) h1 h2 hx (c := c) (fun j hj => ⟨_, Array.getElem?_eq_getElem (by omega)⟩) (fun j v hv => by rw [cell_of_row _ _ _ _ _ _ hc]; exact hv) (fun j v y h1 h2 => (hcs j v y h1 h2).2)
    exact ⟨v, by simp [resOf, hv, asAddr, hr], hvx⟩

/-- What a body's results are. -/
inductive Ress (P : Program) (A : AS) : Array ResultVar → AV → Prop
  | none : Ress P A #[] (.tup [])
  | one {r : ResultVar} {y : AV} (h : ResIs P A r y) : Ress P A #[r] y
  | two {r s : ResultVar} {y z : AV} (h : ResIs P A r y) (h2 : ResIs P A s z) : Ress P A #[r, s] (.tup [y, z])
  | three {r s t : ResultVar} {y z u : AV} (h : ResIs P A r y) (h2 : ResIs P A s z) (h3 : ResIs P A t u) : Ress P A #[r, s, t] (.tup [y, z, u])

theorem run_ress {A : AS} {tmps : Array Value} {fn : Func} {y : AV} (hs : HSat cx ι A.box A.used w) (henv : ∀ t, RepA ι (Mof cx ι A.box) w (tmps.getD t undef) (A.env t)) (hr : Ress P A fn.results y) : ∃ v, (results fn tmps).run P w = .ok v w ∧ RepA ι (Mof cx ι A.box) w v y := by
  rw [results_eq]
  generalize fn.results = rs at hr
  cases hr with
  | none => exact ⟨.tuple #[], by simp, .tup rfl (by simp)⟩
  | @one r y h =>
    obtain ⟨v, h1, h2⟩ := run_res hs henv h
    refine ⟨v, ?_, h2⟩
    simp [h1]
  | @two r s y z h h' =>
    obtain ⟨v, h1, h2⟩ := run_res hs henv h
    obtain ⟨v', h1', h2'⟩ := run_res hs henv h'
    refine ⟨.tuple #[v, v'], ?_, .tup rfl ?_⟩
    · simp [h1, h1']
    · intro i x y hx hy
      rcases i with _ | _ | i
      · simp at hx hy; subst hx hy; exact h2
      · simp at hx hy; subst hx hy; exact h2'
      · simp at hy
  | @three r s t y z u h h' h'' =>
    obtain ⟨v, h1, h2⟩ := run_res hs henv h
    obtain ⟨v', h1', h2'⟩ := run_res hs henv h'
    obtain ⟨v'', h1'', h2''⟩ := run_res hs henv h''
    refine ⟨.tuple #[v, v', v''], ?_, .tup rfl ?_⟩
    · simp [h1, h1', h1'']
    · intro i x y hx hy
      rcases i with _ | _ | _ | i
      · simp at hx hy; subst hx hy; exact h2
      · simp at hx hy; subst hx hy; exact h2'
      · simp at hx hy; subst hx hy; exact h2''
      · simp at hy

/-- The marks are taken, one by one. -/
theorem leaves_marks {A : AS} {fn : Func} {tmps : Array Value} {R : Ending → World → Prop} : ∀ (l : List Deferred) (w : World), HSat cx ι A.box A.used w → Marks cx w l → (∀ t, RepA ι (Mof cx ι A.box) w (tmps.getD t undef) (A.env t)) →
    (∀ w', HSat cx ι A.box A.used w' → (∀ t, RepA ι (Mof cx ι A.box) w' (tmps.getD t undef) (A.env t)) → ∃ v, (results fn tmps).run P w' = .ok v w' ∧ R (.returned v) w') → LeavesInM (fen none) 9 P fn tmps R l .returning w
  | [], w, hs, _, he, h => h w hs he
  | d :: l, w, hs, ⟨⟨D, hd, hD, hh, hne⟩, hm⟩, he, h => by
    have ho : ∀ o, w.heap[D]? = some o → isC o = false := fun o h => by rw [hh] at h; injection h with h; subst h; rfl
    refine ⟨by simp, .inl ⟨D, _, by rw [hd], run_takeDeferred hh, ?_⟩⟩
    refine leaves_marks l _ (hsat_obj hs hD ho) ?_ (fun t => (he t).obj ho) h
    have key : ∀ l : List Deferred, (∀ d', d' ∈ l → d' ≠ { target := .collected D, args := #[] }) → Marks cx w l → Marks cx (w.putObj D (.deferred none)) l := by
      intro l
      induction l with
      | nil => intro _ _; trivial
      | cons d l ih =>
        rintro hne ⟨⟨E, h1, h2, h3, h4⟩, h5⟩
        have hE : E ≠ D := by rintro rfl; exact hne d (by simp) h1
        exact ⟨⟨E, h1, h2, by rw [World.putObj_heap_other hE]; exact h3, h4⟩, ih (fun d' h => hne d' (List.mem_cons_of_mem _ h)) h5⟩
    exact key l hne hm

/-- How a body ends. -/
def Ends (P : Program) (fn : Func) (x : AV) : Exit → AS → Prop
  | .normal, A | .ret, A => ∃ y fp, Ress P A fn.results y ∧ (∀ b x, (b, x) ∈ fp → A.box b = some x) ∧ Frz fp y x
  | _, _ => False

def argsEnv (args : List AV) : Nat → AV := fun t => args.getD t .any

theorem fun_of {f : FuncId} {fn : Func} {c : Code} {args : List AV} {x : AV} (hf : P.funcs[f]? = some fn) (hb : fn.body = some c) (hn : args.length ≤ fn.ntmps)
    (h : ∀ cx : Cx, cx.N = fn.ntmps → cx.R = none → cx.F = (fun _ => none) → args.all AV.lens = true → AWp P cx c (Ends P fn x) ⟨argsEnv args, fun _ => none, fun _ => False⟩) : Fun P f args x := by
  intro M w vs hM hsz hvs
  refine fen_calls.1 (callsIn_of_wp_marks (F := fen none) (n := 9) hf hb trivial ?_ rfl)
  let cx : Cx := ⟨w, fun _ => False, M, fn.ntmps, none, fun _ => none⟩
  have hMof : ∀ ι g, Mof cx ι (fun _ => none) g → M g := by
    rintro ι g (h | ⟨b, x, h, -⟩)
    · exact h
    · cases h
  have hs : Sat cx (fun _ => none) ⟨argsEnv args, fun _ => none, fun _ => False⟩ { tmps := vs ++ Array.replicate (fn.ntmps - vs.size) undef, defers := [] } w := by
    refine ⟨⟨⟨rfl, rfl, rfl, Evo.refl w, Oth.refl w, fun _ _ _ => rfl⟩, hM, (by intro b g h; cases h), (by intro b g h; cases h), (by intro b x h; cases h), (by intro b x h; cases h), (by intro b b' x x' g h; cases h)⟩, ?_, trivial, ?_⟩
    · show (vs ++ Array.replicate (fn.ntmps - vs.size) undef).size = fn.ntmps
      simp
      omega
    · intro t
      show RepA _ _ w ((vs ++ Array.replicate (fn.ntmps - vs.size) undef).getD t undef) (args.getD t .any)
      by_cases ht : t < args.length
      · have h1 : t < vs.size := by omega
        have h2 := hvs t vs[t] args[t] (Array.getElem?_eq_getElem h1) (List.getElem?_eq_getElem ht)
        rw [Array.getD_eq_getD_getElem?, Array.getElem?_append_left h1, Array.getElem?_eq_getElem h1]
        simp only [Option.getD_some]
        rw [show args.getD t .any = args[t] by simp [List.getD, ht]]
        exact .d (h2.keep (fun g _ h => hMof _ g h) (Nat.le_refl _) fun _ _ _ => rfl)
      · rw [show args.getD t .any = .any by simp [List.getD, List.getElem?_eq_none (Nat.le_of_not_lt ht)]]
        exact .any _
  refine wpIn_mono (h cx rfl rfl rfl (all_of_get fun i y hy => (hvs i _ y (Array.getElem?_eq_getElem (by have := (List.getElem?_eq_some_iff.1 hy).1; omega)) hy).lens) _ _ w hs) ?_
  rintro e a' w' ⟨ι', A', hs', he⟩
  have key : (∃ y fp, Ress P A' fn.results y ∧ (∀ b x, (b, x) ∈ fp → A'.box b = some x) ∧ Frz fp y x) → LeavesInM (fen none) 9 P fn a'.tmps (fun e w' => ∃ v, e = .returned v ∧ RepD M w' v x ∧ Below w.heap.size w w') a'.defers .returning w' := by
    rintro ⟨y, fp, hr, hfp, hz⟩
    refine leaves_marks _ _ hs'.h hs'.defers hs'.env fun w1 hs1 henv => ?_
    obtain ⟨v, hrun, hv⟩ := run_ress hs1 henv hr
    refine ⟨v, hrun, v, rfl, ?_, hs1.wi.os, hs1.wi.tape, hs1.wi.output, hs1.wi.evo.size, fun k hk => hs1.wi.block k hk (fun h => h)⟩
    exact (frz_rep hs1 hfp hz hv).keep (fun g _ h => .inl h) (Nat.le_refl _) fun _ _ _ => rfl
  cases e with
  | normal => exact key he
  | ret => exact key he
  | _ => exact he.elim
end

end Go.Proofs.YtkonljmmdifnaaaGreat.V
