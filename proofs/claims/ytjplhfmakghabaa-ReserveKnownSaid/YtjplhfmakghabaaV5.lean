/- Operations that make, or write, blocks of the call's own. -/
import Derived.Test.YtjplhfmakghabaaV4
set_option linter.unusedSimpArgs false
set_option linter.unusedVariables false
namespace Go.Proofs.Ytjplhfmakghabaa.V
open Go.RowKit

section
variable {P : Program} {cx : Cx} {ι : Nat → Option Nat} {box : Nat → Option Bx} {used : Nat → Prop} {w : World}

/-- Name b for block g. -/
def iput (ι : Nat → Option Nat) (b g : Nat) : Nat → Option Nat := fun i => if i = b then some g else ι i

theorem evo_alloc (w : World) (o : Obj) : Evo w (w.alloc o) :=
  ⟨by simp, fun g c t h => ⟨c, by rw [Below.heap_alloc _ _ _ (Array.getElem?_eq_some_iff.1 h).1]; exact h, rfl⟩⟩

theorem Oth.alloc (w : World) (o : Obj) : Oth w (w.alloc o) := fun g o' h _ => by rw [Below.heap_alloc _ _ _ (Array.getElem?_eq_some_iff.1 h).1]; exact h

theorem Within.alloc (h : Within cx w) (o : Obj) : Within cx (w.alloc o) :=
  ⟨h.os, h.tape, h.output, h.evo.trans (evo_alloc w o), h.oth.trans (Oth.alloc w o), fun k hk hG => by rw [Below.heap_alloc _ _ _ (Nat.lt_of_lt_of_le hk h.evo.size)]; exact h.block k hk hG⟩

/-- A new block. -/
theorem step_alloc (hs : HSat cx ι box used w) {b : Nat} {bx : Bx} {c : Array Value} (hu : ¬ used b) (hlen : bx.cs.length ≤ c.size)
    (hcs : ∀ (j : Nat) (v : Value) (y : AV), c[j]? = some v → bx.cs[j]? = some y → v.oneCell' = true ∧ RepA ι (Mof cx ι box) w v y) :
    Step cx ι box used w (iput ι b w.heap.size) (bput box [(b, some bx)]) (fun i => used i ∨ ∃ r, (i, r) ∈ [(b, some bx)]) (w.alloc (.cells c bx.t)) := by
  have hιb : ι b = none := by
    cases h : ι b with
    | none => rfl
    | some g => exact absurd (hs.dom b g h).1 hu
  have hι : ∀ i g, ι i = some g → iput ι b w.heap.size i = some g := fun i g h => by
    have : i ≠ b := by rintro rfl; rw [hιb] at h; cases h
    simp [iput, this, h]
  have hM : ∀ g, g < w.heap.size → Mof cx (iput ι b w.heap.size) (bput box [(b, some bx)]) g → Mof cx ι box g := by
    rintro g hg (h | ⟨i, x, h1, h2⟩)
    · exact .inl h
    · by_cases hi : i = b
      · subst hi; simp [iput] at h2; omega
      · simp [iput, hi] at h2; simp [bput, hi] at h1; exact .inr ⟨i, x, h1, h2⟩
  have hk : ∀ v y, RepA ι (Mof cx ι box) w v y → RepA (iput ι b w.heap.size) (Mof cx (iput ι b w.heap.size) (bput box [(b, some bx)])) (w.alloc (.cells c bx.t)) v y :=
    fun v y h => h.keep hι hM (evo_alloc w _) fun g hg _ => Below.heap_alloc _ _ _ hg
  have hub : ∀ i x, bput box [(b, some bx)] i = some x → used i ∨ ∃ r, (i, r) ∈ [(b, some bx)] := fun i x h => by
    by_cases hi : i = b
    · subst hi; exact .inr ⟨some bx, by simp⟩
    · simp [bput, hi] at h; exact .inl (hs.ub i x h)
  refine ⟨⟨hs.wi.alloc _, hs.m0, fun i g h => hι i g (hs.fix i g h), ?_, hub, ?_, ?_⟩, hk, Oth.alloc _ _⟩
  · intro i g hg
    by_cases hi : i = b
    · subst hi; simp [iput] at hg; subst hg; exact ⟨.inr ⟨some bx, by simp⟩, by simp⟩
    · simp [iput, hi] at hg; exact ⟨.inl (hs.dom i g hg).1, by have := (hs.dom i g hg).2; simp; omega⟩
  · intro i x hx
    by_cases hi : i = b
    · subst hi
      simp [bput] at hx; subst hx
      refine .inr ⟨w.heap.size, by simp [iput], .inl hs.wi.evo.size, fun h => ?_, c, heap_alloc_new w _, hlen, fun j v y hv hy => ⟨(hcs j v y hv hy).1, hk _ _ (hcs j v y hv hy).2⟩⟩
      have h1 := hs.m0 _ h
      have h2 := hs.wi.evo.size
      simp only [Cx.base] at h1
      omega
    · simp [bput, hi] at hx
      rcases hs.own i x hx with ⟨h1, h2⟩ | ⟨g, h1, h2, h3, c', h4, h5, h6⟩
      · exact .inl ⟨h1, by simp [iput, hi, h2]⟩
      exact .inr ⟨g, hι _ _ h1, h2, h3, c', by rw [Below.heap_alloc _ _ _ (hs.dom i g h1).2]; exact h4, h5, fun j v y hv hy => ⟨(h6 j v y hv hy).1, hk _ _ (h6 j v y hv hy).2⟩⟩
  · intro i i' x x' g h1 h2 h3 h4
    by_cases hi : i = b <;> by_cases hi' : i' = b
    · rw [hi, hi']
    · simp [iput, hi] at h3; simp [iput, hi'] at h4; have := (hs.dom _ _ h4).2; omega
    · simp [iput, hi'] at h4; simp [iput, hi] at h3; have := (hs.dom _ _ h3).2; omega
    · simp [iput, hi, hi'] at h3 h4; simp [bput, hi, hi'] at h1 h2; exact hs.inj i i' x x' g h1 h2 h3 h4

theorem evo_setRow {g : Nat} {c c' : Array Value} {t : TypeId} (hh : w.heap[g]? = some (.cells c t (0, 0))) (hsz : c'.size = c.size) : Evo w (w.setRow g c') := by
  refine ⟨by simp, fun k x u hx => ?_⟩
  by_cases hk : k = g
  · subst hk
    rw [hh] at hx
    injection hx with hx
    injection hx with h1 h2
    subst h1 h2
    exact ⟨c', setRow_heap w k _ c' _ _ hh, hsz⟩
  · exact ⟨x, by rw [setRow_other w g k c' hk]; exact hx, rfl⟩

/-- A block of the call's own is written. -/
theorem step_row (hs : HSat cx ι box used w) {b g : Nat} {bx bx' : Bx} {c c' : Array Value} (hb : box b = some bx) (hg : ι b = some g) (hh : w.heap[g]? = some (.cells c bx.t (0, 0))) (hsz : c'.size = c.size) (hlen : bx'.cs.length ≤ c'.size) (ht : bx'.t = bx.t)
    (hcs : ∀ (j : Nat) (v : Value) (y : AV), c'[j]? = some v → bx'.cs[j]? = some y → v.oneCell' = true ∧ RepA ι (Mof cx ι box) w v y) :
    Step cx ι box used w ι (bput box [(b, some bx')]) (fun i => used i ∨ ∃ r, (i, r) ∈ [(b, some bx')]) (w.setRow g c') := by
  have hM : ∀ k, Mof cx ι (bput box [(b, some bx')]) k → Mof cx ι box k := by
    rintro k (h | ⟨i, x, h1, h2⟩)
    · exact .inl h
    · by_cases hi : i = b
      · subst hi; exact .inr ⟨i, bx, hb, h2⟩
      · simp [bput, hi] at h1; exact .inr ⟨i, x, h1, h2⟩
  have hMg : Mof cx ι box g := .inr ⟨b, bx, hb, hg⟩
  have hk : ∀ v y, RepA ι (Mof cx ι box) w v y → RepA ι (Mof cx ι (bput box [(b, some bx')])) (w.setRow g c') v y :=
    fun v y h => h.keep (fun _ _ h => h) (fun k _ h => hM k h) (evo_setRow hh hsz) fun k _ hk => setRow_other w g k c' fun e => hk (e ▸ hMg)
  have hoth : Oth w (w.setRow g c') := fun k o h1 h2 => by
    by_cases e : k = g
    · subst e; rw [hh] at h1; injection h1 with h1; subst h1; cases h2
    · rw [setRow_other w g k c' e]; exact h1
  obtain ⟨g', h1, h2, h3, -⟩ : ∃ g, ι b = some g ∧ (cx.base ≤ g ∨ cx.G g) ∧ ¬ cx.M0 g ∧ BoxRep ι (Mof cx ι box) w g bx := by
    rcases hs.own b bx hb with ⟨-, h⟩ | h
    · rw [hg] at h; cases h
    · exact h
  rw [hg] at h1
  injection h1 with h1
  subst h1
  have hub : ∀ i x, bput box [(b, some bx')] i = some x → used i ∨ ∃ r, (i, r) ∈ [(b, some bx')] := fun i x h => by
    by_cases hi : i = b
    · subst hi; exact .inr ⟨some bx', by simp⟩
    · simp [bput, hi] at h; exact .inl (hs.ub i x h)
  refine ⟨⟨⟨hs.wi.os, hs.wi.tape, hs.wi.output, hs.wi.evo.trans (evo_setRow hh hsz), hs.wi.oth.trans hoth, fun k hk hG => ?_⟩, hs.m0, hs.fix, ?_, hub, ?_, ?_⟩, hk, hoth⟩
  · rw [setRow_other w g k c' (by
      rintro rfl
      rcases h2 with h2 | h2
      · omega
      · exact hG h2)]
    exact hs.wi.block k hk hG
  · intro i k hi
    exact ⟨.inl (hs.dom i k hi).1, by have := (hs.dom i k hi).2; simpa using this⟩
  · intro i x hx
    by_cases hi : i = b
    · subst hi
      simp [bput] at hx; subst hx
      exact .inr ⟨g, hg, h2, h3, c', by rw [ht]; exact setRow_heap w g _ c' _ _ hh, hlen, fun j v y hv hy => ⟨(hcs j v y hv hy).1, hk _ _ (hcs j v y hv hy).2⟩⟩
    · simp [bput, hi] at hx
      rcases hs.own i x hx with h0 | ⟨k, e1, e2, e3, d, e4, e5, e6⟩
      · exact .inl h0
      have hkg : k ≠ g := by rintro rfl; exact hi (hs.inj i b x bx k hx hb e1 hg)
      exact .inr ⟨k, e1, e2, e3, d, by rw [setRow_other w g k c' hkg]; exact e4, e5, fun j v y hv hy => ⟨(e6 j v y hv hy).1, hk _ _ (e6 j v y hv hy).2⟩⟩
  · intro i i' x x' k h1 h2 h3 h4
    have e : ∀ i x, bput box [(b, some bx')] i = some x → ∃ x, box i = some x := fun i x h => by
      by_cases hi : i = b
      · subst hi; exact ⟨bx, hb⟩
      · simp [bput, hi] at h; exact ⟨x, h⟩
    obtain ⟨y, hy⟩ := e i x h1
    obtain ⟨y', hy'⟩ := e i' x' h2
    exact hs.inj i i' y y' k hy hy' h3 h4

/-- An operation that makes a block. -/
theorem yields_new {o : Oper} {ρ : Operand → AV} {x : AV} {b : Nat} {bx : Bx}
    (h : ∀ ι M (a : Act) w, (∀ y, y ∈ o.op.operands → RepA ι M w (a.eval y) (ρ y)) → ∃ (v : Value) (c : Array Value), (execOp a.eval o).run P w = .ok (.value v) (w.alloc (.cells c bx.t)) ∧ bx.cs.length ≤ c.size ∧
      (∀ (j : Nat) (v : Value) (y : AV), c[j]? = some v → bx.cs[j]? = some y → v.oneCell' = true ∧ RepA ι M w v y) ∧ ∀ ι' M', ι' b = some w.heap.size → RepA ι' M' (w.alloc (.cells c bx.t)) v x) : Yields P cx o ρ ⟨[], x, [(b, some bx)]⟩ := by
  intro ι box used a w hs _ _ hfr hops K Q hK
  obtain ⟨v, c, hrun, hlen, hcs, hv⟩ := h ι (Mof cx ι box) a w hops
  have hu : ¬ used b := by
    rcases hfr b bx (by simp) with ⟨y, hy⟩ | h
    · simp at hy
    · exact h
  unfold Oper.wp
  rw [hrun, Oper.upon_value]
  exact hK v _ _ (step_alloc hs hu hlen hcs) (hv _ _ (by simp [iput]))

theorem y_box {o : Oper} {ρ : Operand → AV} {t : TypeId} {y : Operand} {b : Nat} (ho : o.op = .box t y) (hf : (ρ y).flat = true) : Yields P cx o ρ ⟨[], .ptr b 0, [(b, some ⟨t, (ρ y).cells⟩)]⟩ := by
  refine yields_new fun ι M a w hops => ?_
  obtain ⟨h1, h2⟩ := (hops y (mem_ops ho (by simp [Op.operands]))).cells hf
  refine ⟨.pointer (some ⟨w.heap.size, 0, none⟩), (a.eval y).cells, ?_, by simp [h1], h2, fun ι' M' h => .ptr h⟩
  simp [execOp, ho, Instr.box, newVar, newRow, newObj, Sem.run]

theorem y_alloc {o : Oper} {ρ : Operand → AV} {t : TypeId} {z : Value} {b : Nat} (ho : o.op = .alloc t) (hz : ∀ w, (zeroValue t).run P w = .ok z w) (h1 : z.cells.all (·.oneCell') = true) :
    Yields P cx o ρ ⟨[], .ptr b 0, [(b, some ⟨t, z.cells.toList.map .v⟩)]⟩ := by
  refine yields_new fun ι M a w hops => ?_
  refine ⟨.pointer (some ⟨w.heap.size, 0, none⟩), z.cells, ?_, by simp, ?_, fun ι' M' h => .ptr h⟩
  · simp [execOp, ho, Instr.alloc, hz, newVar, newRow, newObj, Sem.run]
  · intro j v y hv hy
    simp [hv] at hy
    subst hy
    exact ⟨(Array.all_eq_true_iff_forall_mem.1 h1) v (Array.mem_of_getElem? hv), .d (.v _)⟩

/-- The cells behind a store. -/
def splice (cs : List AV) (off : Nat) (xs : List AV) : List AV := cs.take off ++ xs ++ cs.drop (off + xs.length)

theorem y_store {o : Oper} {ρ : Operand → AV} {t : TypeId} {y u : Operand} {n b off : Nat} {bx : Bx} (ho : o.op = .store t y u) (hn : ∀ w, (sizeOf t).run P w = .ok n w) (hy : ρ y = .ptr b off) (hf : (ρ u).flat = true)
    (hu : (ρ u).cells.length = n) (hle : off + n ≤ bx.cs.length) (hn0 : 0 < n) : Yields P cx o ρ ⟨[(b, bx)], .v undef, [(b, some ⟨bx.t, splice bx.cs off (ρ u).cells⟩)]⟩ := by
  intro ι box used a w hs _ hfp _ hops K Q hK
  have hb : box b = some bx := hfp b bx (by simp)
  have hne : bx.cs ≠ [] := by intro h; rw [h] at hle; simp at hle; omega
  obtain ⟨g, hg, hgb, hgM, c, hh, hlen, hcs⟩ := hs.ne hb hne
  obtain ⟨g', hg', hv⟩ : ∃ g, ι b = some g ∧ a.eval y = .pointer (some ⟨g, off, none⟩) := by
    have := hops y (mem_ops ho (by simp [Op.operands]))
    rw [hy] at this
    exact this.ptr'
  rw [hg] at hg'
  injection hg' with hg'
  subst hg'
  obtain ⟨hsz, hel⟩ := (hops u (mem_ops ho (by simp [Op.operands]))).cells hf
  have hone : ∀ x, x ∈ (a.eval u).cells.toList → x.oneCell' = true := by
    intro x hx
    obtain ⟨i, hi⟩ := List.mem_iff_getElem?.1 hx
    have hi' : (a.eval u).cells[i]? = some x := by simpa using hi
    have hlt : i < (a.eval u).cells.size := (Array.getElem?_eq_some_iff.1 hi').1
    exact (hel i x _ hi' (List.getElem?_eq_getElem (by omega))).1
  have hlu : (a.eval u).cells.toList.length = n := by simp; omega
  have hrun := run_storeCells_at (P := P) g off bx.t (a.eval u).cells.toList 0 c w hh (by rw [hlu]; omega) hone
  generalize hc' : (List.take (off + 0) c.toList ++ (a.eval u).cells.toList ++ List.drop (off + 0 + (a.eval u).cells.toList.length) c.toList).toArray = c' at hrun
  have hrun2 : (execOp a.eval o).run P w = .ok .skip (w.setRow g c') := by
    have hs1 : (a.eval u).cells.size = n := by omega
    simp [execOp, ho, Instr.storeAt, hv, Instr.sureAddr, storeVar, hn, hs1, hrun]
  unfold Oper.wp
  rw [hrun2, Oper.upon_skip]
  refine hK undef ι _ (step_row hs (bx' := ⟨bx.t, splice bx.cs off (ρ u).cells⟩) hb hg hh ?_ ?_ rfl ?_) (.d (.v _))
  · rw [← hc']; simp; omega
  · rw [← hc']; simp [splice, hu]; omega
  · intro j v z hjv hjz
    rw [← hc'] at hjv
    simp only [splice, hu] at hjz
    simp only [Nat.add_zero, hlu, List.getElem?_toArray] at hjv
    have hto : (c.toList.take off).length = off := by simp; omega
    have htb : (bx.cs.take off).length = off := by simp; omega
    rw [List.append_assoc] at hjv hjz
    by_cases h1 : j < off
    · rw [List.getElem?_append_left (by omega)] at hjv hjz
      rw [List.getElem?_take, if_pos h1] at hjv hjz
      exact hcs j v z (by simpa using hjv) hjz
    · rw [List.getElem?_append_right (by omega), hto] at hjv
      rw [List.getElem?_append_right (by omega), htb] at hjz
      by_cases h2 : j - off < n
      · rw [List.getElem?_append_left (by omega)] at hjv
        rw [List.getElem?_append_left (by omega)] at hjz
        exact hel (j - off) v z (by simpa using hjv) hjz
      · rw [List.getElem?_append_right (by omega), hlu, List.getElem?_drop] at hjv
        rw [List.getElem?_append_right (by omega), hu, List.getElem?_drop] at hjz
        have e : off + n + (j - off - n) = j := by omega
        rw [e] at hjv hjz
        exact hcs j v z (by simpa using hjv) hjz
end

end Go.Proofs.Ytjplhfmakghabaa.V
