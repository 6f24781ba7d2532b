/- The operations: that each does to memory what it does to what is known of it. -/
import Derived.Test.YtjplhfmakghabaaV3
set_option linter.unusedSimpArgs false
set_option linter.unusedVariables false
namespace Go.Proofs.Ytjplhfmakghabaa.V
open Go.RowKit

theorem addr_add' (b off j : Nat) : (⟨b, off, none⟩ : Addr).add j = ⟨b, off + j, none⟩ := by
  unfold Addr.add
  split <;> simp_all

/-- The cells of a value. -/
def AV.cells : AV → List AV
  | .agg l => l
  | x => [x]

/-- What fits into one cell. -/
def AV.one : AV → Bool
  | .v x => x.oneCell'
  | .sl .. => true
  | .ptr .. => true
  | .pp _ => true
  | .osl .. => true
  | .fn .. => true
  | .iface .. => true
  | _ => false

section
variable {P : Program} {cx : Cx} {ι : Nat → Option Nat} {M : Nat → Prop} {w : World}

theorem RepA.one {v : Value} {x : AV} (h : RepA ι M w v x) (hx : x.one = true) : v.oneCell' = true := by
  cases h with
  | d h => cases h with
    | v x => exact hx
    | sl => rfl
    | pp => rfl
    | mp => rfl
    | fn => rfl
    | agg => simp [AV.one] at hx
    | tup => simp [AV.one] at hx
  | any => simp [AV.one] at hx
  | agg => simp [AV.one] at hx
  | tup => simp [AV.one] at hx
  | iffT => simp [AV.one] at hx
  | iffF => simp [AV.one] at hx
  | _ => rfl

theorem RepA.agg' {v : Value} {l : List AV} (h : RepA ι M w v (.agg l)) : ∃ vs : Array Value, v = .agg vs ∧ vs.size = l.length ∧ ∀ (i : Nat) (x : Value) (y : AV), vs[i]? = some x → l[i]? = some y → RepA ι M w x y := by
  cases h with
  | d h => cases h with
    | agg hn h => exact ⟨_, rfl, hn, fun i x y hx hy => .d (h i x y hx hy)⟩
  | agg hn h => exact ⟨_, rfl, hn, h⟩

theorem RepA.tup' {v : Value} {l : List AV} (h : RepA ι M w v (.tup l)) : ∃ vs : Array Value, v = .tuple vs ∧ vs.size = l.length ∧ ∀ (i : Nat) (x : Value) (y : AV), vs[i]? = some x → l[i]? = some y → RepA ι M w x y := by
  cases h with
  | d h => cases h with
    | tup hn h => exact ⟨_, rfl, hn, fun i x y hx hy => .d (h i x y hx hy)⟩
  | tup hn h => exact ⟨_, rfl, hn, h⟩

/-- A value that goes into cells. -/
def AV.flat (x : AV) : Bool := match x with | .agg l => l.all AV.one | x => x.one

theorem RepA.cells {v : Value} {x : AV} (h : RepA ι M w v x) (hx : x.flat = true) : v.cells.size = x.cells.length ∧ ∀ (i : Nat) (u : Value) (y : AV), v.cells[i]? = some u → x.cells[i]? = some y → u.oneCell' = true ∧ RepA ι M w u y := by
  have key : ∀ (v : Value) (x : AV), x.cells = [x] → x.one = true → RepA ι M w v x → v.cells.size = x.cells.length ∧ ∀ (i : Nat) (u : Value) (y : AV), v.cells[i]? = some u → x.cells[i]? = some y → u.oneCell' = true ∧ RepA ι M w u y := by
    intro v x hc ho h
    have h1 := h.one ho
    have hv : v.cells = #[v] := by cases v <;> first | rfl | simp [Value.oneCell'] at h1
    rw [hc, hv]
    refine ⟨rfl, fun i u y hu hy => ?_⟩
    rcases i with _ | i
    · simp at hu hy; subst hu hy; exact ⟨h1, h⟩
    · simp at hy
  cases x with
  | agg l =>
    obtain ⟨vs, rfl, hn, hh⟩ := h.agg'
    refine ⟨hn, fun i u y hu hy => ?_⟩
    have := hh i u y hu hy
    simp only [AV.flat, List.all_eq_true] at hx
    exact ⟨this.one (hx y (List.mem_of_getElem? hy)), this⟩
  | _ => exact key _ _ rfl hx h

/-- An operation that hands back a value and leaves the world alone. -/
theorem yields_val {o : Oper} {ρ : Operand → AV} {fp : List (Nat × Bx)} {x : AV}
    (h : ∀ ι M (a : Act) w, (∀ b x, (b, x) ∈ fp → x.cs ≠ [] → ∃ g, ι b = some g ∧ BoxRep ι M w g x) → (∀ y, y ∈ o.op.operands → RepA ι M w (a.eval y) (ρ y)) → ∃ v, (execOp a.eval o).run P w = .ok (.value v) w ∧ RepA ι M w v x) : Yields P cx o ρ ⟨fp, x, []⟩ := by
  intro ι box used a w hs _ hfp _ hops K Q hK
  obtain ⟨v, hrun, hv⟩ := h ι (Mof cx ι box) a w (fun b x hb hne => by obtain ⟨g, h1, _, _, h4⟩ := hs.ne (hfp b x hb) hne; exact ⟨g, h1, h4⟩) hops
  unfold Oper.wp
  rw [hrun, Oper.upon_value]
  exact hK v ι w ⟨hs.used_mono fun b hb => .inl hb, fun _ _ h => h, Oth.refl _⟩ hv

def AV.val? : AV → Option Value
  | .v y => some y
  | _ => none

/-- Values that are known to the last. -/
def AV.exact : AV → Option Value
  | .v x => some x
  | .agg l => (l.mapM AV.val?).map fun l => .agg l.toArray
  | _ => none

theorem RepA.exact {v u : Value} {x : AV} (h : RepA ι M w v x) (hx : x.exact = some u) : v = u := by
  cases x with
  | v y => simp [AV.exact] at hx; subst hx; exact h.ofV
  | agg l =>
    obtain ⟨vs, rfl, hn, hh⟩ := h.agg'
    simp only [AV.exact, Option.map_eq_some_iff] at hx
    obtain ⟨us, hus, rfl⟩ := hx
    congr 1
    have : ∀ (l : List AV) (us : List Value), l.mapM AV.val? = some us → us.length = l.length ∧ ∀ (i : Nat) (y : AV), l[i]? = some y → ∃ u, us[i]? = some u ∧ y = .v u := by
      intro l
      induction l with
      | nil => intro us h; simp at h; subst h; simp
      | cons a l ih =>
        intro us h
        cases a with
        | v y =>
          simp only [List.mapM_cons, AV.val?, Option.bind_eq_bind, Option.bind_some] at h
          cases hm : l.mapM AV.val? with
          | none => rw [hm] at h; simp at h
          | some r =>
            rw [hm] at h
            simp at h
            subst h
            obtain ⟨h1, h2⟩ := ih r hm
            refine ⟨by simp [h1], fun i z hz => ?_⟩
            rcases i with _ | i
            · simp at hz; subst hz; exact ⟨y, rfl, rfl⟩
            · exact h2 i z (by simpa using hz)
        | _ => simp [AV.val?] at h
    obtain ⟨hlen, hel⟩ := this l us hus
    apply Array.ext_getElem?
    intro i
    by_cases hi : i < vs.size
    · have hl : i < l.length := hn ▸ hi
      obtain ⟨u, hu, hy⟩ := hel i _ (List.getElem?_eq_getElem hl)
      have := hh i _ _ (Array.getElem?_eq_getElem hi) (List.getElem?_eq_getElem hl)
      rw [hy] at this
      rw [Array.getElem?_eq_getElem hi, this.ofV]
      simp [hu]
    · rw [Array.getElem?_eq_none (by omega), Array.getElem?_eq_none (by simp; omega)]
  | _ => simp [AV.exact] at hx

/-- An operation at values known to the last, which leaves the world alone. -/
theorem y_exact {o : Oper} {ρ : Operand → AV} {u : Value} (hs : ∀ cs b, o.op ≠ .select cs b) (σ : Operand → Value) (hσ : ∀ y, y ∈ o.op.operands → (ρ y).exact = some (σ y)) (h : ∀ w, (execOp σ o).run P w = .ok (.value u) w) : Yields P cx o ρ ⟨[], .v u, []⟩ := by
  refine yields_val fun ι M a w _ hops => ⟨u, ?_, .d (.v _)⟩
  rw [execOp_congr o hs (ρ := a.eval) (ρ' := σ) fun y hy => (hops y hy).exact (hσ y hy)]
  exact h w

theorem mem_ops {o : Oper} {op : Op} (ho : o.op = op) {y : Operand} (h : y ∈ op.operands) : y ∈ o.op.operands := by rw [ho]; exact h

theorem y_move {o : Oper} {ρ : Operand → AV} {y : Operand} (ho : o.op = .move y ∨ o.op = .assign y) : Yields P cx o ρ ⟨[], ρ y, []⟩ := by
  refine yields_val fun ι M a w _ hops => ⟨a.eval y, ?_, hops y ?_⟩
  · rcases ho with ho | ho <;> simp [execOp, ho]
  · rcases ho with ho | ho <;> simp [ho, Op.operands]

def pickAV (t : Bool) : AV → AV → AV
  | .v (.bool p), .v (.bool q) => .v (.bool (cond t p q))
  | x, y => cond t x y

theorem pickAV_eq (t : Bool) (x y : AV) : pickAV t x y = cond t x y := by
  unfold pickAV
  split <;> cases t <;> rfl

theorem RepA.ptr' {v : Value} {b off : Nat} (h : RepA ι M w v (.ptr b off)) : ∃ g, ι b = some g ∧ v = .pointer (some ⟨g, off, none⟩) := by
  cases h with
  | d h => cases h
  | ptr h => exact ⟨_, h, rfl⟩

/-- A value under its condition. -/
def AV.strip : AV → AV
  | .iff _ x => x
  | x => x
def AV.cnd : AV → Bool
  | .iff c _ => c
  | _ => true

theorem RepA.strip {v : Value} {x : AV} (h : RepA ι M w v x) (hc : x.cnd = true) : RepA ι M w v x.strip := by
  cases x with
  | iff c y =>
    simp only [AV.cnd] at hc
    subst hc
    cases h with
    | d h => cases h
    | iffT h => exact h
  | _ => exact h

/-- '&&' and '||': the side that is not asked need not be known. -/
theorem y_pick2 {o : Oper} {ρ : Operand → AV} {c p q : Operand} {t : Bool} (ho : o.op = .pick c p q) (hc : (ρ c).strip = .v (.bool t)) (hcc : (ρ c).cnd = true) (hp : t = true → (ρ p).cnd = true) (hq : t = false → (ρ q).cnd = true) :
    Yields P cx o ρ ⟨[], pickAV t (ρ p).strip (ρ q).strip, []⟩ := by
  refine yields_val fun ι M a w _ hops => ?_
  have h1 := (hops c (mem_ops ho (by simp [Op.operands]))).strip hcc
  have h2 := (hops p (mem_ops ho (by simp [Op.operands])))
  have h3 := (hops q (mem_ops ho (by simp [Op.operands])))
  rw [hc] at h1
  have h1 := h1.ofV
  refine ⟨if t then a.eval p else a.eval q, by simp [execOp, ho, h1, asBool], ?_⟩
  rw [pickAV_eq]
  cases t with
  | true => simpa using h2.strip (hp rfl)
  | false => simpa using h3.strip (hq rfl)

theorem y_pick {o : Oper} {ρ : Operand → AV} {c p q : Operand} {t : Bool} (ho : o.op = .pick c p q) (hc : ρ c = .v (.bool t)) : Yields P cx o ρ ⟨[], pickAV t (ρ p) (ρ q), []⟩ := by
  refine yields_val fun ι M a w _ hops => ?_
  have h1 := (hops c (mem_ops ho (by simp [Op.operands])))
  have h2 := (hops p (mem_ops ho (by simp [Op.operands])))
  have h3 := (hops q (mem_ops ho (by simp [Op.operands])))
  rw [hc] at h1
  have h1 := h1.ofV
  refine ⟨if t then a.eval p else a.eval q, by simp [execOp, ho, h1, asBool], ?_⟩
  have key : RepA ι M w (if t then a.eval p else a.eval q) (cond t (ρ p) (ρ q)) := by cases t <;> simpa
  rw [pickAV_eq]
  exact key

/-- The address of a part. -/
theorem y_fieldAddr {o : Oper} {ρ : Operand → AV} {s f : Nat} {y : Operand} {fs : Array Field} {fd : Field} {n : Nat} {b off : Nat} (ho : o.op = .fieldAddr s y f) (hu : P.underlying s = some (.struct fs)) (hf : fs[f]? = some fd)
    (hn : ∀ w, (sizeOf fd.type).run P w = .ok n w) (hn0 : n ≠ 0) (hy : ρ y = .ptr b off) : Yields P cx o ρ ⟨[], .ptr b (off + fd.offset), []⟩ := by
  refine yields_val fun ι M a w _ hops => ?_
  have h1 := hops y (mem_ops ho (by simp [Op.operands]))
  rw [hy] at h1
  obtain ⟨g, hg, hv⟩ := h1.ptr'
  exact ⟨.pointer (some ⟨g, off + fd.offset, none⟩), by simp [execOp, ho, Instr.fieldAt, run_underlying hu, hf, hv, Instr.sureAddr, fieldPlace, hn, hn0, addr_add'], .ptr hg⟩

theorem RepA.pp_drop {g off n : Nat} {l : List AV} (h : RepA ι M w (.pointer (some ⟨g, off, none⟩)) (.pp l)) : RepA ι M w (.pointer (some ⟨g, off + n, none⟩)) (.pp (l.drop n)) := by
  cases h with
  | d h => cases h with
    | pp x h1 h2 h3 h4 =>
      refine .d (.pp (fun j => x (n + j)) h1 h2 (fun j hj => ?_) fun j y hy => h4 (n + j) y ?_)
      · rw [Nat.add_assoc]; exact h3 (n + j) (by simp at hj; omega)
      · simpa using hy

theorem RepA.pp_addr {v : Value} {l : List AV} (h : RepA ι M w v (.pp l)) : ∃ g off, v = .pointer (some ⟨g, off, none⟩) := by
  cases h with
  | d h => cases h with
    | pp => exact ⟨_, _, rfl⟩

theorem y_fieldAddr_pp {o : Oper} {ρ : Operand → AV} {s f : Nat} {y : Operand} {fs : Array Field} {fd : Field} {n : Nat} {l : List AV} (ho : o.op = .fieldAddr s y f) (hu : P.underlying s = some (.struct fs)) (hf : fs[f]? = some fd)
    (hn : ∀ w, (sizeOf fd.type).run P w = .ok n w) (hn0 : n ≠ 0) (hy : ρ y = .pp l) : Yields P cx o ρ ⟨[], .pp (l.drop fd.offset), []⟩ := by
  refine yields_val fun ι M a w _ hops => ?_
  have h1 := hops y (mem_ops ho (by simp [Op.operands]))
  rw [hy] at h1
  obtain ⟨g, off, hv⟩ := h1.pp_addr
  rw [hv] at h1
  exact ⟨_, by simp [execOp, ho, Instr.fieldAt, run_underlying hu, hf, hv, Instr.sureAddr, fieldPlace, hn, hn0, addr_add'], h1.pp_drop⟩

theorem loadCells_of {g off n : Nat} (f : Nat → Value) (h : ∀ j, j < n → w.cell? ⟨g, off + j, none⟩ = some (f j)) : (loadCells ⟨g, off, none⟩ n).run P w = .ok ((List.range n).map f).toArray w :=
  run_loadCells w _ n f fun j hj => by rw [addr_add']; exact h j hj

/-- What is loaded, of cells from off on. -/
def ldAV (ag : Bool) (n off : Nat) (cs : List AV) : Option AV := if ag then (if off + n ≤ cs.length then some (.agg ((cs.drop off).take n)) else none) else cs[off]?

theorem run_ld {t : TypeId} {ag : Bool} {n g off : Nat} {cs : List AV} {x : AV} {c : Array Value} (ha : ∀ w, (isAgg t).run P w = .ok ag w) (hn : ∀ w, (sizeOf t).run P w = .ok n w) (hx : ldAV ag n off cs = some x)
    (hc : ∀ j, j < cs.length → ∃ v, c[j]? = some v) (hw : ∀ (j : Nat) (v : Value), c[j]? = some v → w.cell? ⟨g, j, none⟩ = some v) (hr : ∀ (j : Nat) (v : Value) (y : AV), c[j]? = some v → cs[j]? = some y → RepA ι M w v y) :
    ∃ v, (loadVar t ⟨g, off, none⟩).run P w = .ok v w ∧ RepA ι M w v x := by
  unfold ldAV at hx
  cases ag with
  | false =>
    simp at hx
    have hlt := (List.getElem?_eq_some_iff.1 hx).1
    obtain ⟨v, hv⟩ := hc off hlt
    refine ⟨v, ?_, hr off v x hv hx⟩
    simp [loadVar, ha, hw off v hv]
  | true =>
    simp only [if_true] at hx
    split at hx
    · rename_i hle
      injection hx with hx
      subst hx
      have h1 : ∀ j, j < n → w.cell? ⟨g, off + j, none⟩ = some (c.getD (off + j) undef) := fun j hj => by
        obtain ⟨v, hv⟩ := hc (off + j) (by omega)
        rw [hw _ v hv, Array.getD_eq_getD_getElem?, hv]; rfl
      refine ⟨.agg ((List.range n).map fun j => c.getD (off + j) undef).toArray, ?_, .agg ?_ ?_⟩
      · simp [loadVar, ha, hn, loadCells_of (P := P) (w := w) (fun j => c.getD (off + j) undef) h1]
      · simp; omega
      · intro i u y hu hy
        simp only [List.getElem?_toArray, List.getElem?_map] at hu
        have hi : i < n := by
          rcases Nat.lt_or_ge i n with h | h
          · exact h
          · rw [List.getElem?_eq_none (by simpa using h)] at hu; simp at hu
        rw [List.getElem?_range hi] at hu
        simp at hu
        rw [List.getElem?_take, if_pos hi, List.getElem?_drop] at hy
        obtain ⟨v, hv⟩ := hc (off + i) (by have := (List.getElem?_eq_some_iff.1 hy).1; omega)
        rw [Array.getElem?_eq_some_iff] at hv
        obtain ⟨hlt, hv⟩ := hv
        have hu' : c[off + i]? = some u := by
          rw [Array.getElem?_eq_getElem hlt, hv, ← hu]; simp [hlt, hv]
        exact hr (off + i) u y hu' hy
    · cases hx

theorem y_load {o : Oper} {ρ : Operand → AV} {t : TypeId} {y : Operand} {ag : Bool} {n b off : Nat} {bx : Bx} {x : AV} (ho : o.op = .load t y) (ha : ∀ w, (isAgg t).run P w = .ok ag w) (hn : ∀ w, (sizeOf t).run P w = .ok n w)
    (hy : ρ y = .ptr b off) (hne : bx.cs ≠ []) (hx : ldAV ag n off bx.cs = some x) : Yields P cx o ρ ⟨[(b, bx)], x, []⟩ := by
  refine yields_val fun ι M a w hfp hops => ?_
  have h1 := hops y (mem_ops ho (by simp [Op.operands]))
  rw [hy] at h1
  obtain ⟨g, hg, c, hc, hlen, hcs⟩ := hfp b bx (by simp) hne
  have hv : a.eval y = .pointer (some ⟨g, off, none⟩) := by
    obtain ⟨g', hg', hv⟩ := h1.ptr'
    rw [hg] at hg'
    injection hg' with hg'
    rw [hv, hg']
  obtain ⟨v, hr, hvx⟩ := run_ld (P := P) (w := w) (ι := ι) (M := M) (g := g) ha hn hx (c := c) (fun j hj => ⟨_, Array.getElem?_eq_getElem (by omega)⟩) (fun j v hv => by rw [cell_of_row _ _ _ _ _ _ hc]; exact hv) (fun j v y h1 h2 => (hcs j v y h1 h2).2)
  exact ⟨v, by simp [execOp, ho, Instr.loadAt, hv, Instr.sureAddr, hr], hvx⟩

theorem y_load_pp {o : Oper} {ρ : Operand → AV} {t : TypeId} {y : Operand} {ag : Bool} {n : Nat} {l : List AV} {x : AV} (ho : o.op = .load t y) (ha : ∀ w, (isAgg t).run P w = .ok ag w) (hn : ∀ w, (sizeOf t).run P w = .ok n w)
    (hy : ρ y = .pp l) (hx : ldAV ag n 0 l = some x) : Yields P cx o ρ ⟨[], x, []⟩ := by
  refine yields_val fun ι M a w _ hops => ?_
  have h1 := hops y (mem_ops ho (by simp [Op.operands]))
  rw [hy] at h1
  obtain ⟨g, off, hv⟩ := h1.pp_addr
  rw [hv] at h1
  cases h1 with
  | d h => cases h with
  | pp f h1 h2 h3 h4 =>
    have key : ∃ v, (loadVar t ⟨g, off, none⟩).run P w = .ok v w ∧ RepA ι M w v x := by
      unfold ldAV at hx
      cases ag with
      | false =>
        simp at hx
        have hlt := (List.getElem?_eq_some_iff.1 hx).1
        refine ⟨f 0, ?_, .d (h4 0 x hx)⟩
        have := (h3 0 hlt).1
        simp [loadVar, ha, Nat.add_zero] at this ⊢
        simp [this]
      | true =>
        simp only [if_true] at hx
        split at hx
        · rename_i hle
          injection hx with hx
          subst hx
          refine ⟨.agg ((List.range n).map f).toArray, ?_, .d (.agg (by simp; omega) ?_)⟩
          · have hl := loadCells_of (P := P) (w := w) (g := g) (off := off) (n := n) f fun j hj => (h3 j (by omega)).1
            simp [loadVar, ha, hn, hl]
          · intro i u y hu hy
            simp only [List.getElem?_toArray, List.getElem?_map] at hu
            have hi : i < n := by
              rcases Nat.lt_or_ge i n with h | h
              · exact h
              · rw [List.getElem?_eq_none (by simpa using h)] at hu; simp at hu
            rw [List.getElem?_range hi] at hu
            simp at hu
            subst hu
            refine h4 i y ?_
            simpa [List.getElem?_take, hi] using hy
        · cases hx
    obtain ⟨v, hr, hvx⟩ := key
    exact ⟨v, by simp [execOp, ho, Instr.loadAt, hv, Instr.sureAddr, hr], hvx⟩
end

end Go.Proofs.Ytjplhfmakghabaa.V
