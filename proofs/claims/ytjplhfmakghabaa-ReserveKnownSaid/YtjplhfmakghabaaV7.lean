/- Structs and slices made of parts; functions as values; append. -/
import Derived.Test.YtjplhfmakghabaaV6
import Derived.ArgAppend
set_option linter.unusedSimpArgs false
set_option linter.unusedVariables false
namespace Go.Proofs.Ytjplhfmakghabaa.V
open Go.RowKit

section
variable {P : Program} {cx : Cx} {ι : Nat → Option Nat} {M : Nat → Prop} {w : World}

theorem mem_parts {parts : Array (Nat × Operand)} {p : Nat × Operand} (h : p ∈ parts.toList) : p.2 ∈ ((parts.toList.map (·.2)).toArray : Array Operand) := by
  simp only [List.mem_toArray, List.mem_map]
  exact ⟨p, h, rfl⟩

theorem y_build {o : Oper} {ρ : Operand → AV} {t : TypeId} {parts : Array (Nat × Operand)} {fs : Array Field} {places : Array (Nat × Nat)} {z : Value} {l : List AV} (ho : o.op = .build t parts) (hu : P.underlying t = some (.struct fs)) (hz : ∀ w, (zeroValue t).run P w = .ok z w)
    (hpl : ∀ w, (fs.mapM fun f => Prod.mk f.offset <$> sizeOf f.type : Sem (Array (Nat × Nat))).run P w = .ok places w) (h1 : z.cells.all (·.oneCell') = true) (hl : afill (fun i => places[i]?) (z.cells.toList.map .v) (parts.toList.map fun p => (p.1, ρ p.2)) = some l) : Yields P cx o ρ ⟨[], .agg l, []⟩ := by
  refine yields_val fun ι M a w _ hops => ?_
  obtain ⟨cs, h2, h3, h4, h5⟩ := fill_of (ι := ι) (M := M) (w := w) (ev := a.eval) (ρ := ρ) parts.toList z.cells (z.cells.toList.map .v) l (fun p hp => hops p.2 (mem_ops ho (by simp only [Op.operands]; exact mem_parts hp))) (by simp)
    (fun i x y hx hy => by
      simp [hx] at hy
      subst hy
      exact ⟨(Array.all_eq_true_iff_forall_mem.1 h1) x (Array.mem_of_getElem? hx), .d (.v _)⟩) hl
  refine ⟨.agg cs, ?_, .agg h3 fun i x y hx hy => (h5 i x y hx hy).2⟩
  simp [execOp, ho, Instr.build, hz, run_underlying hu, hpl, h2]

theorem y_build_arr {o : Oper} {ρ : Operand → AV} {t e : TypeId} {parts : Array (Nat × Operand)} {n k : Nat} {z : Value} {l : List AV} (ho : o.op = .build t parts) (hu : P.underlying t = some (.array n e)) (hz : ∀ w, (zeroValue t).run P w = .ok z w)
    (hk : ∀ w, (sizeOf e).run P w = .ok k w) (h1 : z.cells.all (·.oneCell') = true) (hl : afill (fun i => some (i * k, k)) (z.cells.toList.map .v) (parts.toList.map fun p => (p.1, ρ p.2)) = some l) : Yields P cx o ρ ⟨[], .agg l, []⟩ := by
  refine yields_val fun ι M a w _ hops => ?_
  obtain ⟨cs, h2, h3, h4, h5⟩ := fill_of (ι := ι) (M := M) (w := w) (ev := a.eval) (ρ := ρ) parts.toList z.cells (z.cells.toList.map .v) l (fun p hp => hops p.2 (mem_ops ho (by simp only [Op.operands]; exact mem_parts hp))) (by simp)
    (fun i x y hx hy => by
      simp [hx] at hy
      subst hy
      exact ⟨(Array.all_eq_true_iff_forall_mem.1 h1) x (Array.mem_of_getElem? hx), .d (.v _)⟩) hl
  refine ⟨.agg cs, ?_, .agg h3 fun i x y hx hy => (h5 i x y hx hy).2⟩
  simp [execOp, ho, Instr.build, hz, run_underlying hu, hk, h2]

theorem zeros_at (zc : Array Value) (hz : 0 < zc.size) (n i : Nat) (x : Value) (h : ((Array.range n).map (zc[· % zc.size]!))[i]? = some x) : i < n ∧ x = zc.getD (i % zc.size) undef ∧ x ∈ zc.toList := by
  simp only [Array.getElem?_map, Option.map_eq_some_iff] at h
  obtain ⟨j, hj, rfl⟩ := h
  have hlt : i < n := by
    rcases Nat.lt_or_ge i n with h | h
    · exact h
    · rw [Array.getElem?_eq_none (by simpa using h)] at hj; cases hj
  have : j = i := by
    rw [Array.getElem?_eq_getElem (by simpa using hlt)] at hj
    simpa using hj.symm
  subst this
  have hm : j % zc.size < zc.size := Nat.mod_lt _ hz
  refine ⟨hlt, ?_, ?_⟩
  · rw [getElem!_pos zc (j % zc.size) hm, Array.getD_eq_getD_getElem?, Array.getElem?_eq_getElem hm]; rfl
  · rw [getElem!_pos zc (j % zc.size) hm]; simp

theorem y_buildSlice {o : Oper} {ρ : Operand → AV} {t e : TypeId} {len k b : Nat} {parts : Array (Nat × Operand)} {z : Value} {l : List AV} (ho : o.op = .buildSlice t len parts) (hu : P.underlying t = some (.slice e)) (hz : ∀ w, (zeroValue e).run P w = .ok z w) (hk : ∀ w, (sizeOf e).run P w = .ok k w)
    (hzk : z.cells.size = k) (hk0 : 0 < k) (h1 : z.cells.all (·.oneCell') = true) (hlk : len * k ≤ 16777216) (hl : afill (fun i => some (i * k, k)) ((List.range (len * k)).map fun i => .v (z.cells.getD (i % k) undef)) (parts.toList.map fun p => (p.1, ρ p.2)) = some l) :
    Yields P cx o ρ ⟨[], .osl b k 0 len, [(b, some ⟨e, l⟩)]⟩ := by
  refine yields_new fun ι M a w hops => ?_
  generalize hc0 : (if len * k = 0 then #[] else z.cells) = zc
  have hcells : (Array.range (len * k)).map (zc[· % zc.size]!) = (Array.range (len * k)).map (z.cells[· % z.cells.size]!) := by
    by_cases h0 : len * k = 0
    · simp [h0]
    · rw [if_neg h0] at hc0; rw [hc0]
  obtain ⟨cs, h2, h3, h4, h5⟩ := fill_of (ι := ι) (M := M) (w := w) (ev := a.eval) (ρ := ρ) parts.toList ((Array.range (len * k)).map (z.cells[· % z.cells.size]!)) ((List.range (len * k)).map fun i => .v (z.cells.getD (i % k) undef)) l (fun p hp => hops p.2 (mem_ops ho (by simp only [Op.operands]; exact mem_parts hp))) (by simp)
    (fun i x y hx hy => by
      obtain ⟨e1, e2, e3⟩ := zeros_at z.cells (by omega) _ _ _ hx
      rw [List.getElem?_map, List.getElem?_range e1] at hy
      simp only [Option.map_some, Option.some.injEq] at hy
      subst hy
      rw [hzk] at e2
      exact ⟨(Array.all_eq_true_iff_forall_mem.1 h1) x (by simpa using e3), by rw [e2]; exact .d (.v _)⟩) hl
  have h2' : Instr.fill (fun i => some (i * k, k)) ((Array.range (len * k)).map (zc[· % zc.size]!)) (parts.toList.map fun p => (p.1, a.eval p.2)) = some cs := by rw [hcells]; exact h2
  have hll : l.length = len * k := by rw [h4]; simp
  refine ⟨.slice (some ⟨w.heap.size, 0, none⟩) len len, cs, ?_, (by show l.length ≤ _; omega), h5, fun ι' M' h => .osl h (Nat.le_refl _) (by have := Nat.le_mul_of_pos_right len hk0; simp only [maxLen]; omega) (heap_alloc_new w _) (by rw [h3, hll]; simp)⟩
  by_cases h0 : len * k = 0
  · simp only [h0, if_true] at hc0
    subst hc0
    have hb : ¬ 16777216 < len * k := by omega
    have hr0 : Array.range 0 = #[] := rfl
    simp only [h0, hr0, Array.map_empty] at h2'
    simp [execOp, ho, Instr.buildSlice, run_underlying hu, hk, h0, hr0, h2', newRow, newObj, Sem.run]
  · simp only [h0, if_false] at hc0
    subst hc0
    have hb : ¬ 16777216 < len * k := by omega
    simp [execOp, ho, Instr.buildSlice, run_underlying hu, hk, hb, h0, hz, h2', newRow, newObj, Sem.run]

theorem y_makeFunc {o : Oper} {ρ : Operand → AV} {f : Fn} {first caps : Array Operand} (ho : o.op = .makeFunc f first caps) : Yields P cx o ρ ⟨[], .fn f (first.toList.map ρ) (caps.toList.map ρ), []⟩ := by
  refine yields_val fun ι M a w _ hops => ⟨.func f (first.map a.eval) (caps.map a.eval), by simp [execOp, ho, Instr.makeFunc], .fn (by simp) (by simp) ?_ ?_⟩
  · intro i x y hx hy
    simp only [Array.getElem?_map, List.getElem?_map, Option.map_eq_some_iff] at hx hy
    obtain ⟨p, hp, rfl⟩ := hx
    obtain ⟨q, hq, rfl⟩ := hy
    have : p = q := by simpa [hp] using hq
    subst this
    exact hops p (mem_ops ho (by simp only [Op.operands]; exact Array.mem_append.2 (.inl (Array.mem_of_getElem? hp))))
  · intro i x y hx hy
    simp only [Array.getElem?_map, List.getElem?_map, Option.map_eq_some_iff] at hx hy
    obtain ⟨p, hp, rfl⟩ := hx
    obtain ⟨q, hq, rfl⟩ := hy
    have : p = q := by simpa [hp] using hq
    subst this
    exact hops p (mem_ops ho (by simp only [Op.operands]; exact Array.mem_append.2 (.inr (Array.mem_of_getElem? hp))))

theorem y_makeInterface {o : Oper} {ρ : Operand → AV} {t : TypeId} {y : Operand} (ho : o.op = .makeInterface t y) (ht : P.concrete t = true) : Yields P cx o ρ ⟨[], .iface t (ρ y), []⟩ :=
  yields_val fun ι M a w _ hops => ⟨.iface t (a.eval y), by simp [execOp, ho, run_makeInterface w t _ ht], .iface (hops y (mem_ops ho (by simp [Op.operands])))⟩

/-! ### append -/

/-- What is appended: m elements of k cells, which hold 'news'; of which boxes. -/
inductive IsSrc : AV → List (Nat × Bx) → Nat → Nat → List AV → Prop
  | sl {f : Bool} {k m : Nat} {l : List (List AV)} (h : l.length = m) : IsSrc (.sl f k l) [] k m l.flatten
  | osl {b k off m : Nat} {bx : Bx} (h : off + m * k ≤ bx.cs.length) : IsSrc (.osl b k off m) [(b, bx)] k m ((bx.cs.drop off).take (m * k))
  | nil {k c : Nat} : IsSrc (.v (.slice none 0 c)) [] k 0 []

def SrcV (ι : Nat → Option Nat) (M : Nat → Prop) (w : World) (v : Value) (k m : Nat) (news : List AV) : Prop :=
  ∃ (A : Option Addr) (c : Nat) (us : List Value), v = .slice A m c ∧ us.length = m * k ∧ news.length = m * k ∧ (A = none → m = 0) ∧ (∀ ad, A = some ad → ∀ (j : Nat) (u : Value), us[j]? = some u → w.cell? (ad.add j) = some u) ∧
    (∀ (j : Nat) (u : Value) (y : AV), us[j]? = some u → news[j]? = some y → RepA ι M w u y) ∧ ∀ u, u ∈ us → u.oneCell' = true

theorem length_flat {k : Nat} : ∀ (l : List (List AV)), (∀ r, r ∈ l → r.length = k) → l.flatten.length = l.length * k
  | [], _ => by simp
  | r :: l, h => by
    rw [List.flatten_cons, List.length_append, length_flat l fun r hr => h r (by simp [hr]), h r (by simp), List.length_cons, Nat.add_mul]
    omega

theorem flat_at {k : Nat} (hk : 0 < k) : ∀ (l : List (List AV)) (t : Nat) (y : AV), (∀ r, r ∈ l → r.length = k) → l.flatten[t]? = some y → ∃ row, l[t / k]? = some row ∧ row[t % k]? = some y ∧ t / k < l.length
  | [], t, y, _, h => by simp at h
  | r :: l, t, y, hr, h => by
    have hrk := hr r (by simp)
    rw [List.flatten_cons] at h
    by_cases ht : t < k
    · rw [List.getElem?_append_left (by omega)] at h
      rw [Nat.div_eq_of_lt ht, Nat.mod_eq_of_lt ht]
      exact ⟨r, rfl, h, by simp⟩
    · rw [List.getElem?_append_right (by omega), hrk] at h
      obtain ⟨row, h1, h2, h3⟩ := flat_at hk l (t - k) y (fun r h => hr r (by simp [h])) h
      have e1 : t / k = (t - k) / k + 1 := by rw [Nat.div_eq_sub_div hk (by omega)]
      have e2 : t % k = (t - k) % k := by rw [Nat.mod_eq_sub_mod (by omega)]
      rw [e1, e2]
      exact ⟨row, by simpa using h1, h2, by simp; omega⟩

theorem IsSrc.rep {y : AV} {fp : List (Nat × Bx)} {k m : Nat} {news : List AV} {v : Value} (hs : IsSrc y fp k m news) (hk : 0 < k) (h : RepA ι M w v y) (hfp : ∀ b x, (b, x) ∈ fp → x.cs ≠ [] → ∃ g, ι b = some g ∧ BoxRep ι M w g x) : SrcV ι M w v k m news := by
  cases hs with
  | @sl f _ _ l hl =>
    have h := h.sl'
    cases h with
    | @sl A n cap _ _ _ b off x hn hc hm hf hrow hA hcell hx =>
      refine ⟨A, cap, (List.range (m * k)).map fun t => x (t / k) (t % k), by rw [hn, hl], by simp, by rw [length_flat l hrow, hl], ?_, ?_, ?_, ?_⟩
      · intro hA0
        rcases l with _ | ⟨r, l⟩
        · simp at hl; omega
        · have := (hA (by simp)).1; rw [hA0] at this; cases this
      · rintro ad rfl j u hu
        rw [List.getElem?_map] at hu
        have hj : j < m * k := by
          rcases Nat.lt_or_ge j (m * k) with h | h
          · exact h
          · rw [List.getElem?_eq_none (by simpa using h)] at hu; simp at hu
        rw [List.getElem?_range hj] at hu
        simp at hu
        subst hu
        have hdk : j / k < m := (Nat.div_lt_iff_lt_mul hk).2 hj
        have hne : l ≠ [] := by rintro rfl; simp at hl; rw [← hl] at hdk; exact Nat.not_lt_zero _ hdk
        have hA1 := (hA hne).1
        injection hA1 with hA1
        subst hA1
        have := (hcell (j / k) (j % k) (by omega) (Nat.mod_lt _ hk)).1
        rw [addr_add']
        rw [Nat.add_assoc, Nat.div_add_mod' j k] at this
        exact this
      · intro j u y hu hy
        obtain ⟨row, h1, h2, h3⟩ := flat_at hk l j y hrow hy
        rw [List.getElem?_map] at hu
        have hj : j < m * k := by
          rcases Nat.lt_or_ge j (m * k) with h | h
          · exact h
          · rw [List.getElem?_eq_none (by simpa using h)] at hu; simp at hu
        rw [List.getElem?_range hj] at hu
        simp at hu
        subst hu
        exact .d (hx _ row _ y h1 h2)
      · intro u hu
        simp only [List.mem_map, List.mem_range] at hu
        obtain ⟨j, hj, rfl⟩ := hu
        exact (hcell (j / k) (j % k) (by have := (Nat.div_lt_iff_lt_mul hk).2 hj; omega) (Nat.mod_lt _ hk)).2
  | @osl b _ off _ bx hle =>
    rcases h.osl' with ⟨g, cap, c, t, hv, hg, hn, hm, hh, hsz⟩ | ⟨rfl, A, hv⟩
    · by_cases hm0 : m = 0
      · subst hm0
        exact ⟨_, _, [], hv, by simp, by simp, fun _ => rfl, by simp, by simp, by simp⟩
      have hmk : 0 < m * k := Nat.mul_pos (by omega) hk
      obtain ⟨g', hg', c', hc', hlen, hcs⟩ := hfp b bx (by simp) (by intro h; rw [h] at hle; simp at hle; omega)
      rw [hg] at hg'
      injection hg' with hg'
      subst hg'
      rw [hh] at hc'
      injection hc' with hc'
      injection hc' with e1 e2
      subst e1
      have key : ∀ (j : Nat) (u : Value), ((c.toList.drop off).take (m * k))[j]? = some u → j < m * k ∧ c[off + j]? = some u := by
        intro j u hu
        rw [List.getElem?_take] at hu
        split at hu
        · rw [List.getElem?_drop] at hu
          exact ⟨by assumption, by simpa using hu⟩
        · cases hu
      refine ⟨_, _, (c.toList.drop off).take (m * k), hv, by simp; omega, by simp; omega, by simp, ?_, ?_, ?_⟩
      · rintro ad had j u hu
        injection had with had
        subst had
        rw [addr_add', cell_of_row _ _ _ _ _ _ hh]
        exact (key j u hu).2
      · intro j u y hu hy
        obtain ⟨hj, hu⟩ := key j u hu
        rw [List.getElem?_take, if_pos hj, List.getElem?_drop] at hy
        exact (hcs _ _ _ hu hy).2
      · intro u hu
        obtain ⟨j, hj⟩ := List.mem_iff_getElem?.1 hu
        obtain ⟨hj, hu⟩ := key j u hj
        exact (hcs _ _ _ hu (List.getElem?_eq_getElem (by omega))).1
    · exact ⟨A, 0, [], hv, by simp, by simp, fun _ => rfl, by simp, by simp, by simp⟩
  | nil => exact ⟨none, _, [], h.ofV, by simp, by simp, fun _ => rfl, by simp, by simp, by simp⟩

/-- A slice without room grows. -/
theorem run_full {t ty e : TypeId} {i : TypeInfo} {z : Value} (ht : P.underlying t = some (.slice e)) (hi : P.info? e = some i) (hz : i.zero = some z) (hzs : z.cells.size = i.size)
    (B : Option Addr) (n : Nat) (olds : List Value) (hlo : olds.length = n * i.size) (hB : B = none → n = 0) (holds : ∀ ad, B = some ad → ∀ (j : Nat) (u : Value), olds[j]? = some u → w.cell? (ad.add j) = some u)
    (a : Addr) (m c : Nat) (news : List Value) (hl : news.length = m * i.size) (hnews : ∀ (j : Nat) (u : Value), news[j]? = some u → w.cell? (a.add j) = some u) (hm : 0 < m) (h63 : n + m ≤ maxLen) (hbytes : (n + m) * i.bytes ≤ 140737488355328) :
    ∃ (cap : Nat) (C : Array Value), (Builtin.append_ #[t, t] ty #[.slice B n n, .slice (some a) m c]).run P w = .ok (.slice (some ⟨w.heap.size, 0, none⟩) (n + m) cap) (w.drew.alloc (.cells C e)) ∧ n + m ≤ cap ∧ cap ≤ maxLen ∧ C.size = cap * i.size ∧
      ∀ (j : Nat) (u : Value), (olds ++ news)[j]? = some u → C[j]? = some u := by
  have hsmall : n + m ≤ 9223372036854775807 := by simp only [maxLen] at h63; omega
  have hge := grownCap_ge w (n + m) n e
  have hcm : grownCap w (n + m) n e ≤ maxLen := grownCap_le_maxLen w (n + m) n e h63
  refine ⟨grownCap w (n + m) n e, olds.toArray ++ news.toArray ++ Builtin.zeroCells z.cells (grownCap w (n + m) n e - (n + m)), ?_, hge, hcm, ?_, ?_⟩
  · cases B with
    | none =>
      have hn := hB rfl
      subst hn
      have : olds = [] := List.eq_nil_of_length_eq_zero (by simpa using hlo)
      subst this
      have hr := run_append_nil (P := P) w t ty e i z ht hi hz a m c news hl hnews hm (by omega) (by simp only [Nat.zero_add] at hbytes; omega)
      simpa using hr
    | some b => exact run_append_grow (P := P) w t ty e i z ht hi hz b n n olds hlo (holds b rfl) a m c news hl hnews (by omega) (by omega) (growslice_fits (by omega) hbytes)
  · simp only [Array.size_append, List.size_toArray, size_zeroCells, hzs, hlo, hl, ← Nat.add_mul]
    congr 1
    omega
  · intro j u hu
    have hj := (List.getElem?_eq_some_iff.1 hu).1
    rw [Array.getElem?_append_left (by simpa using hj)]
    simpa using hu
end

end Go.Proofs.Ytjplhfmakghabaa.V
