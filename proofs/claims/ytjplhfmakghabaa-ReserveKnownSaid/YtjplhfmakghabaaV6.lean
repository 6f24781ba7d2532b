/- More operations: lengths, elements, pieces of slices, parts of values, values made of parts. -/
import Derived.Test.YtjplhfmakghabaaV5
set_option linter.unusedSimpArgs false
set_option linter.unusedVariables false
namespace Go.Proofs.Ytjplhfmakghabaa.V
open Go.RowKit

section
variable {P : Program} {cx : Cx} {ι : Nat → Option Nat} {M : Nat → Prop} {w : World}

theorem RepA.sl' {v : Value} {full : Bool} {k : Nat} {l : List (List AV)} (h : RepA ι M w v (.sl full k l)) : RepD M w v (.sl full k l) := by
  cases h with
  | d h => exact h

theorem RepD.sl_val {v : Value} {full : Bool} {k : Nat} {l : List (List AV)} (h : RepD M w v (.sl full k l)) : ∃ A cap, v = .slice A l.length cap ∧ l.length ≤ cap ∧ cap ≤ maxLen ∧ (full = true → cap = l.length) := by
  cases h with
  | sl b off x hn hc hm hf => subst hn; exact ⟨_, _, rfl, hc, hm, hf⟩

theorem RepA.osl' {v : Value} {b k off n : Nat} (h : RepA ι M w v (.osl b k off n)) :
    (∃ g cap c t, v = .slice (some ⟨g, off, none⟩) n cap ∧ ι b = some g ∧ n ≤ cap ∧ cap ≤ maxLen ∧ w.heap[g]? = some (.cells c t (0, 0)) ∧ off + cap * k = c.size) ∨ (n = 0 ∧ ∃ A, v = .slice A 0 0) := by
  cases h with
  | d h => cases h
  | osl h1 h2 h3 h4 h5 => exact .inl ⟨_, _, _, _, rfl, h1, h2, h3, h4, h5⟩
  | osl0 A => exact .inr ⟨rfl, A, rfl⟩

theorem y_len {o : Oper} {ρ : Operand → AV} {t e : TypeId} {y : Operand} {full : Bool} {k : Nat} {l : List (List AV)} (ho : o.op = .call { callee := .builtin .len, args := #[y], argTypes := #[t] }) (ht : P.underlying t = some (.slice e)) (hy : ρ y = .sl full k l) :
    Yields P cx o ρ ⟨[], int l.length, []⟩ := by
  refine yields_val fun ι M a w _ hops => ?_
  have h1 := hops y (mem_ops ho (by simp [Op.operands, Call.operands]))
  rw [hy] at h1
  obtain ⟨A, cap, hv, -⟩ := h1.sl'.sl_val
  exact ⟨.int .i64 l.length, by simp [execOp, ho, resolve, invoke, builtin, Builtin.len_, run_underlying ht, hv, goInt], .d (.v _)⟩

theorem y_len_osl {o : Oper} {ρ : Operand → AV} {t e : TypeId} {y : Operand} {b k off n : Nat} (ho : o.op = .call { callee := .builtin .len, args := #[y], argTypes := #[t] }) (ht : P.underlying t = some (.slice e)) (hy : ρ y = .osl b k off n) :
    Yields P cx o ρ ⟨[], int n, []⟩ := by
  refine yields_val fun ι M a w _ hops => ?_
  have h1 := hops y (mem_ops ho (by simp [Op.operands, Call.operands]))
  rw [hy] at h1
  have hv : ∃ A cap, a.eval y = .slice A n cap := by
    rcases h1.osl' with ⟨g, cap, c, t, hv, -⟩ | ⟨rfl, A, hv⟩
    · exact ⟨_, _, hv⟩
    · exact ⟨_, _, hv⟩
  obtain ⟨A, cap, hv⟩ := hv
  exact ⟨.int .i64 n, by simp [execOp, ho, resolve, invoke, builtin, Builtin.len_, run_underlying ht, hv, goInt], .d (.v _)⟩

theorem y_len_nil {o : Oper} {ρ : Operand → AV} {t e : TypeId} {y : Operand} {A : Option Addr} {n c : Nat} (ho : o.op = .call { callee := .builtin .len, args := #[y], argTypes := #[t] }) (ht : P.underlying t = some (.slice e)) (hy : ρ y = .v (.slice A n c)) :
    Yields P cx o ρ ⟨[], int n, []⟩ := by
  refine yields_val fun ι M a w _ hops => ?_
  have h1 := hops y (mem_ops ho (by simp [Op.operands, Call.operands]))
  rw [hy] at h1
  exact ⟨.int .i64 n, by simp [execOp, ho, resolve, invoke, builtin, Builtin.len_, run_underlying ht, h1.ofV, goInt], .d (.v _)⟩

theorem RepD.row {A : Option Addr} {n cap k : Nat} {full : Bool} {l : List (List AV)} {i : Nat} {row : List AV} (h : RepD M w (.slice A n cap) (.sl full k l)) (hi : l[i]? = some row) :
    ∃ b off, A = some ⟨b, off, none⟩ ∧ RepA ι M w (.pointer (some ⟨b, off + i * k, none⟩)) (.pp row) := by
  cases h with
  | sl b off x hn hc hm hf hk hA hl hx =>
    have hlt := (List.getElem?_eq_some_iff.1 hi).1
    obtain ⟨h1, h2, h3⟩ := hA (by rintro rfl; simp at hi)
    have hrk : row.length = k := hk row (List.mem_of_getElem? hi)
    exact ⟨b, off, h1, .d (.pp (x i) h2 h3 (fun j hj => hl i j hlt (by omega)) fun j y hy => hx i row j y hi hy)⟩

theorem y_indexAddr {o : Oper} {ρ : Operand → AV} {t e : TypeId} {y z : Operand} {full : Bool} {k : Nat} {l : List (List AV)} {kd : IntKind} {i : Int} {row : List AV} (ho : o.op = .indexAddr t y z) (ht : P.underlying t = some (.slice e)) (hk : ∀ w, (sizeOf e).run P w = .ok k w)
    (hy : ρ y = .sl full k l) (hz : ρ z = .v (.int kd i)) (h0 : 0 ≤ i) (hr : l[i.toNat]? = some row) : Yields P cx o ρ ⟨[], .pp row, []⟩ := by
  refine yields_val fun ι M a w _ hops => ?_
  have h1 := hops y (mem_ops ho (by simp [Op.operands]))
  have h2 := hops z (mem_ops ho (by simp [Op.operands]))
  rw [hy] at h1
  rw [hz] at h2
  obtain ⟨A, cap, hv, hc, hm, -⟩ := h1.sl'.sl_val
  have h3 := h1.sl'
  rw [hv] at h3
  obtain ⟨b, off, rfl, hp⟩ := h3.row (ι := ι) hr
  have hlt := (List.getElem?_eq_some_iff.1 hr).1
  have hil : i < (l.length : Int) := by omega
  exact ⟨_, by simp [execOp, ho, Instr.indexAt, run_underlying ht, hv, h2.ofV, asIntOf, hk, h0, hil, addr_add'], hp⟩

theorem y_indexAddr_osl {o : Oper} {ρ : Operand → AV} {t e : TypeId} {y z : Operand} {b k off n : Nat} {kd : IntKind} {i : Int} (ho : o.op = .indexAddr t y z) (ht : P.underlying t = some (.slice e)) (hk : ∀ w, (sizeOf e).run P w = .ok k w)
    (hy : ρ y = .osl b k off n) (hz : ρ z = .v (.int kd i)) (h0 : 0 ≤ i) (hn : i < n) : Yields P cx o ρ ⟨[], .ptr b (off + i.toNat * k), []⟩ := by
  refine yields_val fun ι M a w _ hops => ?_
  have h1 := hops y (mem_ops ho (by simp [Op.operands]))
  have h2 := hops z (mem_ops ho (by simp [Op.operands]))
  rw [hy] at h1
  rw [hz] at h2
  rcases h1.osl' with ⟨g, cap, c, t', hv, hg, -⟩ | ⟨rfl, A, hv⟩
  · exact ⟨_, by simp [execOp, ho, Instr.indexAt, run_underlying ht, hv, h2.ofV, asIntOf, hk, h0, hn, addr_add'], .ptr hg⟩
  · omega

theorem y_indexAddr_arr {o : Oper} {ρ : Operand → AV} {t e : TypeId} {y z : Operand} {b k off n : Nat} {kd : IntKind} {i : Int} (ho : o.op = .indexAddr t y z) (ht : P.underlying t = some (.array n e)) (hk : ∀ w, (sizeOf e).run P w = .ok k w)
    (hy : ρ y = .ptr b off) (hz : ρ z = .v (.int kd i)) (h0 : 0 ≤ i) (hn : i < n) : Yields P cx o ρ ⟨[], .ptr b (off + i.toNat * k), []⟩ := by
  refine yields_val fun ι M a w _ hops => ?_
  have h1 := hops y (mem_ops ho (by simp [Op.operands]))
  have h2 := hops z (mem_ops ho (by simp [Op.operands]))
  rw [hy] at h1
  rw [hz] at h2
  obtain ⟨g, hg, hv⟩ := h1.ptr'
  exact ⟨_, by simp [execOp, ho, Instr.indexAt, run_underlying ht, hv, h2.ofV, asIntOf, Instr.sureAddr, hk, h0, hn, addr_add'], .ptr hg⟩

theorem RepD.slice_piece {A : Option Addr} {n cap k lo hi m : Nat} {full f' : Bool} {l : List (List AV)} (h : RepD M w (.slice A n cap) (.sl full k l)) (h1 : lo ≤ hi) (h2 : hi ≤ n) (h3 : hi ≤ m) (h4 : m ≤ cap) (hf : f' = true → m = hi) :
    RepD M w (.slice (if m = lo then A else A.map (·.add (lo * k))) (hi - lo) (m - lo)) (.sl f' k ((l.take hi).drop lo)) := by
  cases h with
  | sl b off x hn hc hm hf0 hk hA hl hx =>
    have hlen : ((l.take hi).drop lo).length = hi - lo := by simp; omega
    refine .sl b (off + lo * k) (fun i j => x (lo + i) j) hlen.symm (by omega) (by omega) (fun h => by rw [hf h]) (fun row hrow => hk row ?_) (fun hne => ?_) (fun i j hi' hj => ?_) (fun i row j y hr hy => ?_)
    · exact List.mem_of_mem_take (List.mem_of_mem_drop hrow)
    · have hlt : lo < hi := by
        rcases Nat.lt_or_ge lo hi with h | h
        · exact h
        · exact absurd (List.eq_nil_of_length_eq_zero (by omega)) hne
      obtain ⟨e1, e2, e3⟩ := hA (by rintro rfl; simp at hn; omega)
      rw [if_neg (by omega), e1]
      exact ⟨by simp [addr_add'], e2, e3⟩
    · have := hl (lo + i) j (by omega) hj
      rw [Nat.add_mul, ← Nat.add_assoc] at this
      exact this
    · refine hx (lo + i) row j y ?_ hy
      rw [List.getElem?_drop, List.getElem?_take] at hr
      split at hr
      · exact hr
      · cases hr

theorem run_sliceBounds_n {n cap : Nat} {lo hi mx : Option Value} {a b m : Nat} (hlo : (lo = none ∧ a = 0) ∨ lo = some (.int .i64 (a : Int))) (hhi : (hi = none ∧ b = n ∧ mx = none) ∨ hi = some (.int .i64 (b : Int))) (hmx : (mx = none ∧ m = cap) ∨ mx = some (.int .i64 (m : Int)))
    (h1 : a ≤ b) (h2 : b ≤ m) (h3 : m ≤ cap) : (Instr.sliceBounds true n cap lo hi mx).run P w = .ok (a, b, m) w := by
  have i1 : ((a : Int) ≤ (b : Int)) := by omega
  have i2 : ((b : Int) ≤ (m : Int)) := by omega
  have i3 : ((m : Int) ≤ (cap : Int)) := by omega
  have p1 : (0 : Int) ≤ a := by omega
  have p2 : (0 : Int) ≤ b := by omega
  have p3 : (0 : Int) ≤ m := by omega
  rcases hmx with ⟨rfl, rfl⟩ | rfl
  · rcases hhi with ⟨rfl, rfl, -⟩ | rfl <;> rcases hlo with ⟨rfl, rfl⟩ | rfl <;> simp [Instr.sliceBounds, Instr.sliceBound, asIntOf, *]
  · rcases hhi with ⟨-, -, h⟩ | rfl
    · cases h
    · rcases hlo with ⟨rfl, rfl⟩ | rfl <;> simp [Instr.sliceBounds, Instr.sliceBound, asIntOf, *]

/-- 's[lo:hi:max]' at numbers. -/
theorem y_slice {o : Oper} {ρ : Operand → AV} {t e : TypeId} {y : Operand} {lo hi mx : Option Operand} {full f' : Bool} {k a b : Nat} {l : List (List AV)} (ho : o.op = .slice t y lo hi mx) (ht : P.underlying t = some (.slice e)) (hk : ∀ w, (sizeOf e).run P w = .ok k w) (hy : ρ y = .sl full k l)
    (hlo : (lo = none ∧ a = 0) ∨ ∃ z, lo = some z ∧ ρ z = .v (.int .i64 (a : Int))) (hhi : (hi = none ∧ b = l.length ∧ mx = none) ∨ ∃ z, hi = some z ∧ ρ z = .v (.int .i64 (b : Int))) (hmx : (mx = none ∧ f' = (full && decide (b = l.length))) ∨ (f' = true ∧ ∃ z, mx = some z ∧ ρ z = .v (.int .i64 (b : Int))))
    (h1 : a ≤ b) (h2 : b ≤ l.length) : Yields P cx o ρ ⟨[], .sl f' k ((l.take b).drop a), []⟩ := by
  refine yields_val fun ι M ac w _ hops => ?_
  have g1 := hops y (mem_ops ho (by simp [Op.operands]))
  rw [hy] at g1
  have g2 := g1.sl'
  obtain ⟨A, cap, hv, hc, hm, hfull⟩ := g2.sl_val
  rw [hv] at g2
  have ev : ∀ z, z ∈ o.op.operands → ∀ n : Nat, ρ z = .v (.int .i64 (n : Int)) → ac.eval z = .int .i64 (n : Int) := fun z hz n hn => by
    have := hops z hz
    rw [hn] at this
    exact this.ofV
  obtain ⟨m, hm1, hm2, hm3⟩ : ∃ m : Nat, ((mx.map ac.eval = none ∧ m = cap) ∨ mx.map ac.eval = some (.int .i64 (m : Int))) ∧ b ≤ m ∧ m ≤ cap ∧ (f' = true → m = b) := by
    rcases hmx with ⟨rfl, rfl⟩ | ⟨rfl, z, rfl, hz⟩
    · refine ⟨cap, .inl ⟨rfl, rfl⟩, by omega, Nat.le_refl _, fun h => ?_⟩
      simp at h
      rw [hfull h.1, h.2]
    · exact ⟨b, .inr (by simp [ev z (mem_ops ho (by simp [Op.operands])) b hz]), Nat.le_refl _, by omega, fun _ => rfl⟩
  have hlo' : (lo.map ac.eval = none ∧ a = 0) ∨ lo.map ac.eval = some (.int .i64 (a : Int)) := by
    rcases hlo with ⟨rfl, rfl⟩ | ⟨z, rfl, hz⟩
    · exact .inl ⟨rfl, rfl⟩
    · exact .inr (by simp [ev z (mem_ops ho (by simp [Op.operands])) a hz])
  have hhi' : (hi.map ac.eval = none ∧ b = l.length ∧ mx.map ac.eval = none) ∨ hi.map ac.eval = some (.int .i64 (b : Int)) := by
    rcases hhi with ⟨rfl, rfl, rfl⟩ | ⟨z, rfl, hz⟩
    · exact .inl ⟨rfl, rfl, rfl⟩
    · exact .inr (by simp [ev z (mem_ops ho (by simp [Op.operands])) b hz])
  have hrun := run_sliceBounds_n (P := P) (w := w) hlo' hhi' hm1 h1 hm2 hm3.1
  refine ⟨_, ?_, .d (g2.slice_piece (lo := a) (hi := b) (m := m) h1 h2 hm2 hm3.1 hm3.2)⟩
  simp [execOp, ho, Instr.sliceAt, Instr.slice, run_underlying ht, hv, hrun, hk]

theorem y_extract {o : Oper} {ρ : Operand → AV} {y : Operand} {i : Nat} {l : List AV} {x : AV} (ho : o.op = .extract y i) (hy : ρ y = .tup l) (hx : l[i]? = some x) : Yields P cx o ρ ⟨[], x, []⟩ := by
  refine yields_val fun ι M a w _ hops => ?_
  have h1 := hops y (mem_ops ho (by simp [Op.operands]))
  rw [hy] at h1
  obtain ⟨vs, hv, hn, hh⟩ := h1.tup'
  have hlt : i < vs.size := by have := (List.getElem?_eq_some_iff.1 hx).1; omega
  refine ⟨vs[i], ?_, hh i _ _ (Array.getElem?_eq_getElem hlt) hx⟩
  simp [execOp, ho, Instr.extract, hv, hlt]

theorem run_part_of {t : TypeId} {ag : Bool} {n off : Nat} {vs : Array Value} {l : List AV} {x : AV} (ha : ∀ w, (isAgg t).run P w = .ok ag w) (hn : ∀ w, (sizeOf t).run P w = .ok n w) (hs : vs.size = l.length) (hh : ∀ (i : Nat) (x : Value) (y : AV), vs[i]? = some x → l[i]? = some y → RepA ι M w x y)
    (hx : ldAV ag n off l = some x) : ∃ v, (part t vs off).run P w = .ok v w ∧ RepA ι M w v x := by
  unfold ldAV at hx
  cases ag with
  | false =>
    simp at hx
    have hlt : off < vs.size := by have := (List.getElem?_eq_some_iff.1 hx).1; omega
    exact ⟨vs[off], by simp [part, ha, hlt], hh off _ _ (Array.getElem?_eq_getElem hlt) hx⟩
  | true =>
    simp only [if_true] at hx
    split at hx
    · rename_i hle
      injection hx with hx
      subst hx
      refine ⟨.agg (vs.extract off (off + n)), by simp [part, ha, hn], .agg (by simp; omega) fun i u y hu hy => ?_⟩
      rw [List.getElem?_take] at hy
      split at hy
      · rename_i hi
        rw [List.getElem?_drop] at hy
        rw [Array.getElem?_extract_of_lt (by omega)] at hu
        exact hh (off + i) u y (by rw [← hu]; exact Array.getElem?_eq_getElem _) hy
      · cases hy
    · cases hx

theorem y_field {o : Oper} {ρ : Operand → AV} {t : TypeId} {y : Operand} {f n : Nat} {ag : Bool} {fs : Array Field} {fd : Field} {l : List AV} {x : AV} (ho : o.op = .field t y f) (hu : P.underlying t = some (.struct fs)) (hf : fs[f]? = some fd) (ha : ∀ w, (isAgg fd.type).run P w = .ok ag w) (hn : ∀ w, (sizeOf fd.type).run P w = .ok n w)
    (hy : ρ y = .agg l) (hx : ldAV ag n fd.offset l = some x) : Yields P cx o ρ ⟨[], x, []⟩ := by
  refine yields_val fun ι M a w _ hops => ?_
  have h1 := hops y (mem_ops ho (by simp [Op.operands]))
  rw [hy] at h1
  obtain ⟨vs, hv, hs, hh⟩ := h1.agg'
  obtain ⟨v, hr, hvx⟩ := run_part_of (P := P) (w := w) ha hn hs hh hx
  exact ⟨v, by simp [execOp, ho, Instr.field, run_underlying hu, hf, hv, asAgg, hr], hvx⟩

theorem y_index {o : Oper} {ρ : Operand → AV} {t e : TypeId} {y z : Operand} {n k : Nat} {ag : Bool} {l : List AV} {x : AV} {kd : IntKind} {i : Int} (ho : o.op = .index t y z) (hu : P.underlying t = some (.array n e)) (ha : ∀ w, (isAgg e).run P w = .ok ag w) (hn : ∀ w, (sizeOf e).run P w = .ok k w)
    (hy : ρ y = .agg l) (hz : ρ z = .v (.int kd i)) (h0 : 0 ≤ i) (hi : i < n) (hx : ldAV ag k (i.toNat * k) l = some x) : Yields P cx o ρ ⟨[], x, []⟩ := by
  refine yields_val fun ι M a w _ hops => ?_
  have h1 := hops y (mem_ops ho (by simp [Op.operands]))
  have h2 := hops z (mem_ops ho (by simp [Op.operands]))
  rw [hy] at h1
  rw [hz] at h2
  obtain ⟨vs, hv, hs, hh⟩ := h1.agg'
  obtain ⟨v, hr, hvx⟩ := run_part_of (P := P) (w := w) ha hn hs hh hx
  exact ⟨v, by simp [execOp, ho, Instr.index, run_underlying hu, hv, h2.ofV, asIntOf, h0, hi, hn, hr], hvx⟩

/-- Parts laid into cells. -/
def afill (place : Nat → Option (Nat × Nat)) (cells : List AV) : List (Nat × AV) → Option (List AV)
  | [] => some cells
  | (i, x) :: rest =>
    match place i with
    | none => none
    | some (off, size) => if x.flat && x.cells.length == size && decide (off + size ≤ cells.length) then afill place (splice cells off x.cells) rest else none

theorem fold_put : ∀ (us : List Value) (off j : Nat) (cs : Array Value), off + j + us.length ≤ cs.size → (us.zipIdx j).foldl (fun cs (p : Value × Nat) => cs.setIfInBounds (off + p.2) p.1) cs = (cs.toList.take (off + j) ++ us ++ cs.toList.drop (off + j + us.length)).toArray
  | [], off, j, cs, _ => by simp
  | u :: us, off, j, cs, h => by
    rw [List.zipIdx_cons, List.foldl_cons]
    simp only
    have hh : off + j < cs.size := by simp at h; omega
    rw [fold_put us off (j + 1) _ (by simp at h ⊢; omega)]
    congr 1
    simp only [Array.toList_setIfInBounds]
    apply List.ext_getElem?
    intro i
    have hl1 : (List.take (off + j) cs.toList).length = off + j := by simp; omega
    have hl2 : (List.take (off + (j + 1)) (cs.toList.set (off + j) u)).length = off + j + 1 := by simp; omega
    simp only [List.append_assoc]
    by_cases h1 : i < off + j
    · rw [List.getElem?_append_left (by omega), List.getElem?_append_left (by omega), List.getElem?_take, List.getElem?_take, if_pos (by omega), if_pos h1, List.getElem?_set_ne (by omega)]
    · by_cases h2 : i = off + j
      · subst h2
        rw [List.getElem?_append_left (by omega), List.getElem?_append_right (by omega), List.getElem?_take, if_pos (by omega), List.getElem?_set_self (by simpa using hh), hl1]
        simp
      · rw [List.getElem?_append_right (l₁ := List.take (off + (j + 1)) (cs.toList.set (off + j) u)) (by omega), List.getElem?_append_right (l₁ := List.take (off + j) cs.toList) (by omega), hl1, hl2]
        obtain ⟨m, hm⟩ : ∃ m, i - (off + j) = m + 1 := ⟨i - (off + j) - 1, by omega⟩
        rw [hm, show i - (off + j + 1) = m from by omega]
        simp only [List.cons_append, List.getElem?_cons_succ]
        by_cases h3 : m < us.length
        · rw [List.getElem?_append_left h3, List.getElem?_append_left h3]
        · rw [List.getElem?_append_right (by omega), List.getElem?_append_right (by omega), List.getElem?_drop, List.getElem?_drop, List.getElem?_set_ne (by simp; omega)]
          congr 1
          simp
          omega

theorem fill_of {place : Nat → Option (Nat × Nat)} {ι : Nat → Option Nat} {M : Nat → Prop} {w : World} {ev : Operand → Value} {ρ : Operand → AV} : ∀ (parts : List (Nat × Operand)) (cs : Array Value) (l l' : List AV), (∀ p, p ∈ parts → RepA ι M w (ev p.2) (ρ p.2)) → cs.size = l.length →
    (∀ (i : Nat) (x : Value) (y : AV), cs[i]? = some x → l[i]? = some y → x.oneCell' = true ∧ RepA ι M w x y) → afill place l (parts.map fun p => (p.1, ρ p.2)) = some l' →
    ∃ cs', Instr.fill place cs (parts.map fun p => (p.1, ev p.2)) = some cs' ∧ cs'.size = l'.length ∧ l'.length = l.length ∧ ∀ (i : Nat) (x : Value) (y : AV), cs'[i]? = some x → l'[i]? = some y → x.oneCell' = true ∧ RepA ι M w x y
  | [], cs, l, l', _, hs, hc, h => by
    simp [afill] at h; subst h
    exact ⟨cs, rfl, hs, rfl, hc⟩
  | (i, z) :: parts, cs, l, l', hp, hs, hc, h => by
    simp only [List.map_cons, afill] at h
    cases hpl : place i with
    | none => rw [hpl] at h; cases h
    | some os =>
      obtain ⟨off, size⟩ := os
      rw [hpl] at h
      simp only at h
      split at h
      · rename_i hcond
        simp only [Bool.and_eq_true, beq_iff_eq, decide_eq_true_eq] at hcond
        obtain ⟨⟨hfl, hlen⟩, hle⟩ := hcond
        have hpz := hp (i, z) (by simp)
        simp only at hpz
        obtain ⟨hsz, hel⟩ := hpz.cells hfl
        have hf := fold_put (ev z).cells.toList off 0 cs (by simp; omega)
        have hspl : (splice l off (ρ z).cells).length = l.length := by simp [splice]; omega
        obtain ⟨cs', h1, h2, h3, h4⟩ := fill_of parts ((cs.toList.take (off + 0) ++ (ev z).cells.toList ++ cs.toList.drop (off + 0 + (ev z).cells.toList.length)).toArray) (splice l off (ρ z).cells) l' (fun p hpp => hp p (by simp [hpp])) (by rw [hspl]; simp; omega) (by
          intro j x y hx hy
          have hto : (cs.toList.take off).length = off := by simp; omega
          have htb : (l.take off).length = off := by simp; omega
          simp only [splice, List.append_assoc] at hy
          simp only [Nat.add_zero, List.getElem?_toArray, List.append_assoc] at hx
          by_cases g1 : j < off
          · rw [List.getElem?_append_left (by omega), List.getElem?_take, if_pos g1] at hx hy
            exact hc j x y (by simpa using hx) hy
          · rw [List.getElem?_append_right (by omega), hto] at hx
            rw [List.getElem?_append_right (by omega), htb] at hy
            by_cases g2 : j - off < size
            · rw [List.getElem?_append_left (by simp; omega)] at hx
              rw [List.getElem?_append_left (by omega)] at hy
              exact hel (j - off) x y (by simpa using hx) hy
            · have e1 : (ev z).cells.toList.length = size := by simp; omega
              rw [List.getElem?_append_right (by omega), e1, List.getElem?_drop] at hx
              rw [List.getElem?_append_right (by omega), hlen, List.getElem?_drop] at hy
              have e : off + size + (j - off - size) = j := by omega
              rw [e] at hx hy
              exact hc j x y (by simpa using hx) hy) h
        refine ⟨cs', ?_, h2, by rw [h3, hspl], h4⟩
        simp only [List.map_cons, Instr.fill, hpl]
        have e1 : ¬ ((ev z).cells.size ≠ size ∨ off + (ev z).cells.size > cs.size) := by omega
        simp only [ne_eq, Bool.or_eq_true, decide_eq_true_eq, e1, if_false]
        rw [← hf] at h1
        rw [← Array.foldl_toList, Array.toList_zipIdx]
        exact h1
      · cases h
end

end Go.Proofs.Ytjplhfmakghabaa.V
