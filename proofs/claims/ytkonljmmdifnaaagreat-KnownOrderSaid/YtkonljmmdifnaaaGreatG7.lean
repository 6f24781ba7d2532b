/- Ranges over functions: what an iterator hands over, and the statement's rule. slices.Sort at ints: the library's contract (the kit's), as a contract over plain data. Plain: what holds on which days: slices. Contracts: cmp, span. Contracts: risk, cover, terms.Covers. Contracts: the references of chapters 3, 4, 6, 8, 10. Slices alike (chapter 12). -/
import Derived.Test.YtkonljmmdifnaaaGreatG6
import Derived.Shelf.SlGeneric
import Derived.Shelf.SortG.Plain
import Derived.Shelf.SortG.SortNone
import Derived.Shelf.SlSortCmp.NoneTotal
import Derived.Shelf.SlSortCmp.WholeK
import Derived.Ground.SlgnProg
import Derived.Ground.SlsfProg
import Derived.Test.YtkonljmmdifnaaaGreatProg
set_option linter.unusedSimpArgs false
set_option linter.unusedVariables false
namespace Go.Proofs.YtkonljmmdifnaaaGreat.V
open Go.RowKit
variable {P : Program} {cx : Cx} {ι : Nat → Option Nat} {box : Nat → Option Bx} {used : Nat → Prop}

/-- An iterator that hands over xs, one after the other, as long as yield answers true. -/
def Iter (P : Program) (gf : FuncId) (caps : List AV) (xs : List (Array Value)) : Prop :=
  ∀ (lb : Array Value) (l : Nat) (J : Nat → World → Prop) (Jx : World → Prop) (W : World) (M : Nat → Prop), lb.size = caps.length → (∀ g, M g → g < W.heap.size) →
    (∀ (i : Nat) (v : Value) (y : AV), lb[i]? = some v → caps[i]? = some y → RepD M W v y) →
    (∀ k W1 W2, J k W1 → Below W1.heap.size W1 W2 → J k W2) → (∀ W1 W2, Jx W1 → Below W1.heap.size W1 W2 → Jx W2) →
    (∀ k W1, J k W1 → W.heap.size ≤ W1.heap.size ∧ ∀ g, g < W.heap.size → ¬ M g → W1.heap[g]? = W.heap[g]?) →
    (∀ k W1 x, J k W1 → xs[k]? = some x → YieldAt (fen none) 9 P l x W1 fun e W' => (e = .returned (.bool true) ∧ J (k + 1) W') ∨ (e = .returned (.bool false) ∧ Jx W')) →
    J 0 W → CallsIn (fen none) 8 P gf (#[.func (.yield l) #[] #[]] ++ lb) W fun e W' => (∃ v, e = .returned v) ∧ (J xs.length W' ∨ Jx W')

theorem HSat.move {cx' : Cx} {w w' : World} (h : HSat cx ι box used w) (hwi : Within cx' w') (hm0 : ∀ g, cx'.M0 g → g < cx'.base) (hfix : ∀ b g, cx'.F b = some g → ι b = some g) (he : Evo w w')
    (hM : ∀ g, g < w.heap.size → cx'.M0 g → cx.M0 g) (hb : ∀ g, g < w.heap.size → ¬ Mof cx ι box g → w'.heap[g]? = w.heap[g]?)
    (hown : ∀ b x g, box b = some x → ι b = some g → ¬ cx.M0 g → w'.heap[g]? = w.heap[g]? ∧ (cx'.base ≤ g ∨ cx'.G g) ∧ ¬ cx'.M0 g) :
    HSat cx' ι box used w' ∧ ∀ v y, RepA ι (Mof cx ι box) w v y → RepA ι (Mof cx' ι box) w' v y := by
  have hMM : ∀ g, g < w.heap.size → Mof cx' ι box g → Mof cx ι box g := by
    rintro g hg (h1 | h1)
    · exact .inl (hM g hg h1)
    · exact .inr h1
  have keep : ∀ v y, RepA ι (Mof cx ι box) w v y → RepA ι (Mof cx' ι box) w' v y := fun v y hr => RepA.keep (fun _ _ h => h) hMM he hb hr
  refine ⟨⟨hwi, hm0, hfix, fun b g hg => ⟨(h.dom b g hg).1, Nat.lt_of_lt_of_le (h.dom b g hg).2 he.size⟩, h.ub, fun b x hbx => ?_, h.inj⟩, keep⟩
  rcases h.own b x hbx with h1 | ⟨g, e1, e2, e3, c, e4, e5, e6⟩
  · exact .inl h1
  · obtain ⟨o1, o2, o3⟩ := hown b x g hbx e1 e3
    exact .inr ⟨g, e1, o2, o3, c, o1.trans e4, e5, fun j v y hv hy => ⟨(e6 j v y hv hy).1, keep _ _ (e6 j v y hv hy).2⟩⟩

/-! ### The world in which a range has begun -/

def wo (w : World) (o : Obj) : World := (w.alloc (.deferred (some []))).alloc o

section
variable {w W : World} {o o' : Obj}

theorem wo_heap : (wo w o).heap = (w.heap.push (.deferred (some []))).push o := rfl
theorem wo_size : (wo w o).heap.size = w.heap.size + 2 := by simp [wo_heap]
theorem wo_l : (wo w o).heap[w.heap.size + 1]? = some o := by
  rw [wo_heap, Array.getElem?_push]; simp
theorem wo_D : (wo w o).heap[w.heap.size]? = some (.deferred (some [])) := by
  rw [wo_heap, Array.getElem?_push, Array.getElem?_push]; simp
theorem wo_lt {g : Nat} (hg : g < w.heap.size) : (wo w o).heap[g]? = w.heap[g]? := by
  rw [wo_heap, Array.getElem?_push, Array.getElem?_push, if_neg (by simp; omega), if_neg (by omega)]
theorem wo_ne {g : Nat} (hg : g ≠ w.heap.size + 1) : (wo w o).heap[g]? = (wo w o').heap[g]? := by
  rw [wo_heap, wo_heap, Array.getElem?_push, Array.getElem?_push (xs := w.heap.push _) (x := o'), if_neg (by simpa using hg), if_neg (by simpa using hg)]
theorem wo_below : Below w.heap.size w (wo w o) := ((Below.refl _ w).alloc (Nat.le_refl _) _).alloc (by simp) _

def cxO (cx : Cx) (w : World) (G0 : Nat → Prop) (F0 : Nat → Option Nat) (o : Obj) : Cx := ⟨wo w o, G0, fun g => cx.M0 g ∨ g = w.heap.size ∨ g = w.heap.size + 1, cx.N, some (w.heap.size + 1), F0⟩

variable {G0 : Nat → Prop} {F0 : Nat → Option Nat}

theorem cxO_l (ho : isC o = false) (h : HSat (cxO cx w G0 F0 o) ι box used W) : W.heap[w.heap.size + 1]? = some o ∧ W.heap[w.heap.size]? = some (.deferred (some [])) :=
  ⟨h.wi.oth _ _ wo_l ho, h.wi.oth _ _ wo_D rfl⟩

theorem cxO_turn (ho : isC o = false) (ho' : isC o' = false) (h : HSat (cxO cx w G0 F0 o) ι box used W) :
    HSat (cxO cx w G0 F0 o') ι box used (W.putObj (w.heap.size + 1) o') ∧ ∀ v y, RepA ι (Mof (cxO cx w G0 F0 o) ι box) W v y → RepA ι (Mof (cxO cx w G0 F0 o') ι box) (W.putObj (w.heap.size + 1) o') v y := by
  obtain ⟨hl, hD⟩ := cxO_l ho h
  have hlt : w.heap.size + 1 < W.heap.size := (Array.getElem?_eq_some_iff.1 hl).1
  have hs : (W.putObj (w.heap.size + 1) o').heap.size = W.heap.size := by simp [World.putObj]
  have hput : ∀ g, g ≠ w.heap.size + 1 → (W.putObj (w.heap.size + 1) o').heap[g]? = W.heap[g]? := fun g hg => World.putObj_heap_other hg
  have hpl : (W.putObj (w.heap.size + 1) o').heap[w.heap.size + 1]? = some o' := World.putObj_heap_same hlt
  have hev : Evo W (W.putObj (w.heap.size + 1) o') := ⟨by rw [hs]; exact Nat.le_refl _, fun g c t hg => ⟨c, by
    rw [hput g (by rintro rfl; rw [hl] at hg; cases hg; cases ho)]; exact hg, rfl⟩⟩
  refine h.move ⟨h.wi.os, h.wi.tape, h.wi.output, ⟨?_, fun g c t hg => ?_⟩, fun g x hg hx => ?_, fun k hk hG => ?_⟩ (fun g hg => ?_) h.fix hev (fun g _ hg => hg) (fun g _ hn => hput g fun e => hn (.inl (.inr (.inr e))))
    (fun b x g hb hι hn => ⟨hput g fun e => hn (.inr (.inr e)), ?_, hn⟩)
  · show (wo w o').heap.size ≤ _
    have := h.wi.evo.size
    rw [hs, wo_size]
    show w.heap.size + 2 ≤ W.heap.size
    omega
  · have hg : (wo w o').heap[g]? = some (Obj.cells c t (0, 0)) := hg
    have hne : g ≠ w.heap.size + 1 := by rintro rfl; rw [wo_l] at hg; cases hg; cases ho'
    rw [wo_ne (o' := o) hne] at hg
    rw [hput g hne]
    exact h.wi.evo.cells g c t hg
  · have hg : (wo w o').heap[g]? = some x := hg
    by_cases hne : g = w.heap.size + 1
    · subst hne; rw [wo_l] at hg; cases hg; exact hpl
    · rw [wo_ne (o' := o) hne] at hg
      rw [hput g hne]
      exact h.wi.oth g x hg hx
  · have hk : k < (wo w o').heap.size := hk
    show _ = (wo w o').heap[k]?
    by_cases hne : k = w.heap.size + 1
    · subst hne; rw [wo_l]; exact hpl
    · rw [hput k hne, wo_ne (o' := o) hne]
      exact h.wi.block k (by show k < (wo w o).heap.size; rw [wo_size] at hk ⊢; exact hk) hG
  · have := h.m0 g hg
    show g < (wo w o').heap.size
    have : g < (wo w o).heap.size := this
    rw [wo_size] at this ⊢
    exact this
  · rcases h.own b x hb with ⟨-, h1⟩ | ⟨g', e1, e2, -⟩
    · rw [h1] at hι; cases hι
    · rw [e1] at hι; cases hι
      rcases e2 with e2 | e2
      · refine .inl ?_
        show (wo w o').heap.size ≤ g
        have : (wo w o).heap.size ≤ g := e2
        rw [wo_size] at this ⊢; exact this
      · exact .inr e2

/-- The range begins. -/
theorem cxO_start (p : Nat) (h : HSat cx ι box used w) :
    HSat (cxO cx w (fun g => ∃ b x, box b = some x ∧ ι b = some g) (fun b => if b < p then ι b else none) o) ι box used (wo w o) ∧
      ∀ v y, RepA ι (Mof cx ι box) w v y → RepA ι (Mof (cxO cx w (fun g => ∃ b x, box b = some x ∧ ι b = some g) (fun b => if b < p then ι b else none) o) ι box) (wo w o) v y := by
  have hb := wo_below (w := w) (o := o)
  refine h.move ⟨rfl, rfl, rfl, Evo.refl _, Oth.refl _, fun _ _ _ => rfl⟩ (fun g hg => ?_) (fun b g hg => ?_) (evo_below hb) (fun g hlt hg => ?_) (fun g hg _ => hb.block g hg) (fun b x g hbx hι hn => ⟨hb.block g (h.dom b g hι).2, .inr ⟨b, x, hbx, hι⟩, ?_⟩)
  · show g < (wo w o).heap.size
    rw [wo_size]
    rcases hg with hg | hg | hg
    · have := h.m0 g hg
      have := h.wi.evo.size
      have : cx.base ≤ w.heap.size := this
      omega
    · omega
    · omega
  · simp only [cxO] at hg
    split at hg
    · exact hg
    · cases hg
  · rcases hg with hg | hg | hg
    · exact hg
    · omega
    · omega
  · have := (h.dom b g hι).2
    rintro (hg | hg | hg)
    · exact hn hg
    · omega
    · omega

/-- What the frame holds in its temporaries abides the rounds. -/
theorem cxO_env {used' : Nat → Prop} {ι0 : Nat → Option Nat} {box0 : Nat → Option Bx} {p : Nat} (hs : HSat cx ι0 box0 used w)
    (h : HSat (cxO cx w (fun g => ∃ b x, box0 b = some x ∧ ι0 b = some g) (fun b => if b < p then ι0 b else none) o) ι box used' W) {v : Value} {y : AV} (hy : RepA ι0 (Mof cx ι0 box0) w v y) (hp : y.names (fun b => decide (b < p)) = true) :
    RepA ι (Mof (cxO cx w (fun g => ∃ b x, box0 b = some x ∧ ι0 b = some g) (fun b => if b < p then ι0 b else none) o) ι box) W v y := by
  obtain ⟨h0, k0⟩ := cxO_start (o := o) p hs
  have h1 := (k0 v y hy).cut (p := fun b => decide (b < p)) (r := id) (ren_id y).symm hp
  refine RepA.keep (fun b g hb => ?_) (fun g hg hm => ?_) h.wi.evo (fun g hg hn => ?_) h1
  · refine h.fix b g ?_
    simpa [cxO, cutTo] using hb
  · rcases hm with hm | ⟨b, x, e1, e2⟩
    · exact .inl hm
    · rcases h.own b x e1 with ⟨-, e3⟩ | ⟨g', e3, e4, -⟩
      · rw [e3] at e2; cases e2
      · rw [e3] at e2; cases e2
        rcases e4 with e4 | ⟨b', x', e5, e6⟩
        · exact absurd hg (Nat.not_lt.2 e4)
        · exact .inr ⟨b', x', e5, e6⟩
  · refine h.wi.block g hg fun hG => hn ?_
    obtain ⟨b, x, e1, e2⟩ := hG
    exact .inr ⟨b, x, e1, e2⟩

/-- The range is over. -/
theorem cxO_end {used' : Nat → Prop} {ι0 : Nat → Option Nat} {box0 : Nat → Option Bx} {p : Nat} (hs : HSat cx ι0 box0 used w) (hF : ∀ b g, cx.F b = some g → b < p) (ho : isC o = false) (ho' : isC o' = false)
    (h : HSat (cxO cx w (fun g => ∃ b x, box0 b = some x ∧ ι0 b = some g) (fun b => if b < p then ι0 b else none) o) ι box used' W) :
    HSat cx ι box used' (W.putObj (w.heap.size + 1) o') ∧ (∀ v y, RepA ι (Mof (cxO cx w (fun g => ∃ b x, box0 b = some x ∧ ι0 b = some g) (fun b => if b < p then ι0 b else none) o) ι box) W v y → RepA ι (Mof cx ι box) (W.putObj (w.heap.size + 1) o') v y) ∧
      Oth w (W.putObj (w.heap.size + 1) o') ∧ (W.putObj (w.heap.size + 1) o').heap[w.heap.size]? = some (.deferred (some [])) := by
  obtain ⟨hl, hD⟩ := cxO_l ho h
  have hlt : w.heap.size + 1 < W.heap.size := (Array.getElem?_eq_some_iff.1 hl).1
  have hsz : (W.putObj (w.heap.size + 1) o').heap.size = W.heap.size := by simp [World.putObj]
  have hput : ∀ g, g ≠ w.heap.size + 1 → (W.putObj (w.heap.size + 1) o').heap[g]? = W.heap[g]? := fun g hg => World.putObj_heap_other hg
  have hev : Evo W (W.putObj (w.heap.size + 1) o') := ⟨by rw [hsz]; exact Nat.le_refl _, fun g c t hg => ⟨c, by
    rw [hput g (by rintro rfl; rw [hl] at hg; cases hg; cases ho)]; exact hg, rfl⟩⟩
  have hbs : cx.base ≤ w.heap.size := hs.wi.evo.size
  have hoth : Oth w (W.putObj (w.heap.size + 1) o') := fun g x hg hx => by
    have hgl := (Array.getElem?_eq_some_iff.1 hg).1
    rw [hput g (by omega)]
    exact h.wi.oth g x (by show (wo w o).heap[g]? = _; rw [wo_lt hgl]; exact hg) hx
  have hG : ∀ g, (∃ b x, box0 b = some x ∧ ι0 b = some g) → cx.base ≤ g ∨ cx.G g := by
    rintro g ⟨b, x, e1, e2⟩
    rcases hs.own b x e1 with ⟨-, e3⟩ | ⟨g', e3, e4, -⟩
    · rw [e3] at e2; cases e2
    · rw [e3] at e2; cases e2; exact e4
  have hM := h.move (cx' := cx) (w' := W.putObj (w.heap.size + 1) o') ⟨h.wi.os.trans hs.wi.os, h.wi.tape.trans hs.wi.tape, h.wi.output.trans hs.wi.output, (hs.wi.evo.trans (evo_below wo_below)).trans (h.wi.evo.trans hev), hs.wi.oth.trans hoth, fun k hk hn => ?_⟩ hs.m0
    (fun b g hb => h.fix b g (by simp only [cxO, if_pos (hF b g hb)]; exact hs.fix b g hb)) hev (fun g _ hg => .inl hg) (fun g _ hn => hput g fun e => hn (.inl (.inr (.inr e)))) (fun b x g hb hι hn => ⟨hput g fun e => hn (.inr (.inr e)), ?_, fun hg => hn (.inl hg)⟩)
  · exact ⟨hM.1, hM.2, hoth, by rw [hput _ (by omega)]; exact hD⟩
  · have hkw : k < w.heap.size := Nat.lt_of_lt_of_le hk hbs
    rw [hput k (by omega)]
    refine (h.wi.block k (by show k < (wo w o).heap.size; rw [wo_size]; omega) fun hg => ?_).trans ((wo_lt hkw).trans (hs.wi.block k hk hn))
    rcases hG k hg with h1 | h1
    · exact absurd hk (Nat.not_lt.2 h1)
    · exact hn h1
  · rcases h.own b x hb with ⟨-, h1⟩ | ⟨g', e1, e2, -⟩
    · rw [h1] at hι; cases hι
    · rw [e1] at hι; cases hι
      rcases e2 with e2 | e2
      · refine .inl (Nat.le_trans hbs ?_)
        have : (wo w o).heap.size ≤ g := e2
        rw [wo_size] at this; omega
      · exact hG g e2
end

/-! ### The statement -/

def psE (ps : List Nat) (ys : List AV) (E : Env) : Env := (ps.zip ys).foldl (fun e p => (p.1, p.2) :: e) E

theorem args_fold {M : Nat → Prop} {w : World} {N : Nat} : ∀ (ps : List Nat) (vs : List Value) (ys : List AV) (tm : Array Value) (E : Env), tm.size = N → (∀ t, RepA ι M w (tm.getD t undef) (eget E t)) → vs.length = ys.length →
    (∀ (i : Nat) (v : Value) (y : AV), vs[i]? = some v → ys[i]? = some y → RepA ι M w v y) → (∀ t, t ∈ ps → t < N) →
    ((ps.zip vs).foldl (fun t p => t.setIfInBounds p.1 p.2) tm).size = N ∧ ∀ t, RepA ι M w (((ps.zip vs).foldl (fun t p => t.setIfInBounds p.1 p.2) tm).getD t undef) (eget (psE ps ys E) t)
  | [], vs, ys, tm, E, h1, h2, _, _, _ => ⟨h1, h2⟩
  | q :: ps, [], [], tm, E, h1, h2, _, _, _ => ⟨h1, h2⟩
  | q :: ps, [], y :: ys, tm, E, _, _, h, _, _ => by simp at h
  | q :: ps, v :: vs, [], tm, E, _, _, h, _, _ => by simp at h
  | q :: ps, v :: vs, y :: ys, tm, E, h1, h2, h3, h4, h5 => by
    have hq : q < tm.size := by rw [h1]; exact h5 q (by simp)
    refine args_fold ps vs ys (tm.setIfInBounds q v) ((q, y) :: E) (by simpa using h1) (fun t => ?_) (by simpa using h3) (fun i v' y' hv hy => h4 (i + 1) v' y' (by simpa using hv) (by simpa using hy)) fun t ht => h5 t (by simp [ht])
    rw [eget_cons]
    by_cases ht : t = q
    · subst ht
      rw [if_pos rfl]
      have : (tm.setIfInBounds t v).getD t undef = v := by simp [Array.getD, hq]
      rw [this]
      exact h4 0 v y (by simp) (by simp)
    · rw [if_neg ht]
      have : (tm.setIfInBounds q v).getD t undef = tm.getD t undef := by
        simp only [Array.getD, Array.size_setIfInBounds]
        split
        · rename_i hlt
          exact Array.getElem_setIfInBounds_ne (by simpa using hlt) (Ne.symm ht)
        · rfl
      rw [this]
      exact h2 t

/-- How a round may end. -/
def RoundQ {σ : Type} (cx : Cx) (E : Env) (I : σ → Boxes × Nat) (idx : σ → Nat) (k : Nat) (Q : Exit → LS → Prop) : Exit → LS → Prop
  | .normal, A => ∃ (s' : σ) (r : Nat → Nat), idx s' = k + 1 ∧ LCut cx r ⟨E, A.box, A.next⟩ ⟨E, (I s').1, (I s').2⟩
  | .ret, A => Q .ret ⟨E, A.box, A.next⟩
  | .exit id, A => Q (.exit id) ⟨E, A.box, A.next⟩
  | _, _ => False

theorem round_any {m m' : Nat} {l : Nat} {f : FuncId} {tmps : Array Value} {assign body : Code} {w : World} {R : Ending → World → Prop} (h : RoundIn (fen none) m P l f tmps assign body w R) : RoundIn (fen none) m' P l f tmps assign body w R :=
  ⟨h.1, fun c cs _ => h.2 c cs (fun d hd => by cases hd)⟩

/-- An iterator that hands out rows: what it hands out may lie in memory that it made since the last round. -/
def IterY (P : Program) (gf : FuncId) (caps : List AV) (ys : List (List AV)) : Prop :=
  ∀ (lb : Array Value) (l : Nat) (J : Nat → World → Prop) (Jx : World → Prop) (W : World) (M : Nat → Prop), lb.size = caps.length → (∀ g, M g → g < W.heap.size) →
    (∀ (i : Nat) (v : Value) (y : AV), lb[i]? = some v → caps[i]? = some y → RepD M W v y) →
    (∀ k W1 W2, J k W1 → Below W1.heap.size W1 W2 → J k W2) → (∀ W1 W2, Jx W1 → Below W1.heap.size W1 W2 → Jx W2) →
    (∀ k W1, J k W1 → W.heap.size ≤ W1.heap.size ∧ ∀ g, g < W.heap.size → ¬ M g → W1.heap[g]? = W.heap[g]?) →
    (∀ k W0 W1 (x : Array Value) (y : List AV), J k W0 → Below W0.heap.size W0 W1 → ys[k]? = some y → x.size = y.length → (∀ (i : Nat) (v : Value) (a : AV), x[i]? = some v → y[i]? = some a → ∀ ι, RepA ι (fun g => M g ∨ (W.heap.size ≤ g ∧ g < W0.heap.size)) W1 v a) →
      YieldAt (fen none) 9 P l x W1 fun e W' => (e = .returned (.bool true) ∧ J (k + 1) W') ∨ (e = .returned (.bool false) ∧ Jx W')) →
    J 0 W → CallsIn (fen none) 8 P gf (#[.func (.yield l) #[] #[]] ++ lb) W fun e W' => (∃ v, e = .returned v) ∧ (J ys.length W' ∨ Jx W')

set_option maxHeartbeats 1000000 in
theorem range_codeY {σ : Type} {g : Operand} {ps : Array Nat} {assign body : Code} {Q : Exit → LS → Prop} {A : LS} (hm : P.follows .mixedOrders = true) (hro : cx.R = none) (p : Nat) (E : Env) (I : σ → Boxes × Nat) (idx : σ → Nat) (r : Nat → Nat) (s₀ : σ)
    {gf : FuncId} {caps : List AV} (ys : List (List AV)) (hit : IterY P gf caps ys) (hcg : Callable P gf) (h₀ : LCut cx r A ⟨E, (I s₀).1, (I s₀).2⟩) (hi0 : idx s₀ = 0) (hF : ∀ b g, cx.F b = some g → b < p)
    (hE0 : (E.all fun q => q.2.names fun b => decide (b < p)) = true) (hg : oeval E g = .fn (.func gf) [] caps) (hgd : caps.all AV.isData = true)
    (hyn : ∀ y, y ∈ ys → y.length = ps.size)
    (hps : ps.toList.all (fun t => decide (t < cx.N)) = true) (hoka : bodyOK cx.N assign = true) (hokb : bodyOK cx.N body = true)
    (round : ∀ s y, ys[idx s]? = some y → ∀ cx' : Cx, cx'.N = cx.N → (∀ b g, cx'.F b = some g → b < p) →
      W P cx' assign (lthen (fun A1 => ∀ cx'' : Cx, cx''.N = cx.N → (∀ b g, cx''.F b = some g → b < p) → W P cx'' body (RoundQ cx'' E I idx (idx s) Q) A1) (fun _ _ => False)) ⟨psE ps.toList y E, (I s).1, (I s).2⟩)
    (done : ∀ s, idx s = ys.length → Q .normal ⟨E, (I s).1, (I s).2⟩) : CodeW P cx (.rangeFunc g ps assign body) Q A := by
  have hE : ∀ t x, (t, x) ∈ E → x.names (fun b => decide (b < p)) = true := fun t x h => by
    rw [List.all_eq_true] at hE0
    exact hE0 (t, x) h
  clear hE0
  intro ι1 a w hs1
  have hs := hs1.cut h₀.cut
  generalize cutTo _ r ι1 = ι0 at hs
  clear hs1 h₀
  have hEn : ∀ t, (eget E t).names (fun b => decide (b < p)) = true := by
    intro t
    clear hg done round hs
    induction E with
    | nil => simp [eget, AV.names]
    | cons q E ih =>
      rw [show q = (q.1, q.2) from rfl, eget_cons]
      split
      · exact hE q.1 q.2 (by simp)
      · exact ih fun t x h => hE t x (by simp [h])
  refine wpIn_rangeFunc ?_
  intro fn hfn
  rw [show (fen cx.R).round = none from hro]
  have hv := hs.eval g
  rw [mkAS_eval, hg] at hv
  obtain ⟨fs, lb, hv0, hfs, hlb, -, hlc⟩ := hv.fn'
  have hfs0 : fs = #[] := Array.eq_empty_of_size_eq_zero (by simpa using hfs)
  subst hfs0
  obtain ⟨rec, hrec⟩ : ∃ rec : LoopState → Option Code → Obj, rec = fun st pe => .loop { state := st, pending := pe, fn, tmps := a.tmps, params := ps, assign, body, defers := w.heap.size } := ⟨_, rfl⟩
  have hrC : ∀ st pe, isC (rec st pe) = false := fun st pe => by rw [hrec]; rfl
  let G0 : Nat → Prop := fun g => ∃ b x, bget (I s₀).1 b = some x ∧ ι0 b = some g
  let F0 : Nat → Option Nat := fun b => if b < p then ι0 b else none
  let cO : Obj → Cx := cxO cx w G0 F0
  let a0 : Go.Act := { a with defers := [] }
  let J : Nat → World → Prop := fun k W => ∃ s ι, idx s = k ∧ Sat (cO (rec .ready none)) ι (mkAS E (I s).1 (I s).2 []) a0 W
  let Jx : World → Prop := fun W => ∃ (e : Exit) (c : Code) (bx : Boxes) (n : Nat) (ι : Nat → Option Nat), ((e = .ret ∧ c = .ret) ∨ ∃ id, e = .exit id ∧ c = .exit id) ∧ Q e ⟨E, bx, n⟩ ∧ Sat (cO (rec .done (some c))) ι (mkAS E bx n []) a0 W
  have henv : ∀ {o : Obj} {ι : Nat → Option Nat} {box : Nat → Option Bx} {used : Nat → Prop} {W : World}, HSat (cO o) ι box used W → ∀ t, RepA ι (Mof (cO o) ι box) W (a0.tmps.getD t undef) (eget E t) :=
    fun h t => cxO_env hs.h h (hs.env t) (hEn t)
  have hsz0 : a0.tmps.size = cx.N := hs.size
  have below : ∀ {o : Obj} {ι : Nat → Option Nat} {A' : AS} {W1 W2 : World}, Sat (cO o) ι A' a0 W1 → Below W1.heap.size W1 W2 → Sat (cO o) ι A' a0 W2 := fun h hb =>
    ⟨(step_below h.h hb).h, h.size, trivial, fun t => (step_below h.h hb).keep _ _ (h.env t)⟩
  refine ⟨w.heap.size + 1, [{ target := .collected w.heap.size, args := #[] }], wo w (rec .ready none), { target := .fn (.func gf) lb, args := #[.func (.yield (w.heap.size + 1)) #[] #[]] }, wo w (rec .ready none), gf,
    #[.func (.yield (w.heap.size + 1)) #[] #[]] ++ lb, wo w (rec .ready none), ?_, ?_, ?_, ?_, fun _ => by omega, ?_⟩
  · rw [hrec]; exact run_enterLoop_outer _ _ _ _ _
  · simp only [resolve, hv0]
    simp [go_sem]
  · intro f' _; trivial
  · have := hcg (#[.func (.yield (w.heap.size + 1)) #[] #[]] ++ lb) (wo w (rec .ready none))
    simp [invoke, go_sem] at this ⊢
    exact this
  · obtain ⟨hst, kst⟩ := cxO_start (o := rec .ready none) p hs.h
    have hI := hit lb (w.heap.size + 1) J Jx (wo w (rec .ready none)) (Mof (cO (rec .ready none)) ι0 (bget (I s₀).1)) (by simpa using hlb) (fun g hM => mof_lt hst hM) (fun i v y hv hy => (kst _ _ (hlc i v y hv hy)).toD (by rw [List.all_eq_true] at hgd; exact hgd y (List.mem_of_getElem? hy))) ?_ ?_ ?_ ?_ ?_
    · have hI2 : CallsIn (fen cx.R) 8 P gf (#[.func (.yield (w.heap.size + 1)) #[] #[]] ++ lb) (wo w (rec .ready none)) fun e W' => (∃ v, e = .returned v) ∧ (J ys.length W' ∨ Jx W') := by rw [hro]; exact hI
      refine hI2.mono ?_
      have hmk : ∀ {W' : World}, Oth w W' → W'.heap[w.heap.size]? = some (.deferred (some [])) → Marks cx W' ([{ target := .collected w.heap.size, args := #[] }] ++ a.defers) := fun {W'} ho hD => by
        refine ⟨⟨_, rfl, hs.h.wi.evo.size, hD, ?_⟩, hs.defers.keep ho⟩
        have : ∀ (l : List Deferred), Marks cx w l → ∀ d', d' ∈ l → d' ≠ { target := .collected w.heap.size, args := #[] } := by
          intro l
          induction l with
          | nil => intro _ d' h; simp at h
          | cons d l ih =>
            rintro ⟨⟨D, rfl, -, hD', -⟩, h2⟩ d' hd' he
            rcases List.mem_cons.1 hd' with rfl | hd'
            · have := (Array.getElem?_eq_some_iff.1 hD').1
              simp at he; omega
            · exact ih h2 d' hd' he
        exact this _ hs.defers
      rintro e W2 ⟨⟨v, rfl⟩, (⟨s, ι, hi, hS⟩ | ⟨e, c, bx, n, ι, he, hQ, hS⟩)⟩
      · obtain ⟨hl, -⟩ := cxO_l (hrC _ _) hS.h
        obtain ⟨e1, e2, e3, e4⟩ := cxO_end (o' := rec .exhausted none) hs.h hF (hrC _ _) (hrC _ _) hS.h
        refine ⟨none, W2.putObj (w.heap.size + 1) (rec .exhausted none), ?_, ?_⟩
        · rw [hrec] at hl ⊢
          exact run_endLoop hl (by simp)
        · exact ⟨ι, _, ⟨e1, hS.size, hmk e3 e4, fun t => e2 _ _ (hS.env t)⟩, _, rfl, done s hi⟩
      · obtain ⟨hl, -⟩ := cxO_l (hrC _ _) hS.h
        obtain ⟨e1, e2, e3, e4⟩ := cxO_end (o' := rec .exhausted (some c)) hs.h hF (hrC _ _) (hrC _ _) hS.h
        refine ⟨some c, W2.putObj (w.heap.size + 1) (rec .exhausted (some c)), ?_, ?_⟩
        · rw [hrec] at hl ⊢
          exact run_endLoop hl (by simp)
        · have hfin : ∃ ι' A', Sat cx ι' A' { a with defers := [{ target := .collected w.heap.size, args := #[] }] ++ a.defers } (W2.putObj (w.heap.size + 1) (rec .exhausted (some c))) ∧ lift Q e A' :=
            ⟨ι, _, ⟨e1, hS.size, hmk e3 e4, fun t => e2 _ _ (hS.env t)⟩, _, rfl, hQ⟩
          rcases he with ⟨rfl, rfl⟩ | ⟨id, rfl, rfl⟩
          · exact wpIn_ret hfin
          · exact wpIn_exit hfin
    · rintro k W1 W2 ⟨s, ι, hi, hS⟩ hb
      exact ⟨s, ι, hi, below hS hb⟩
    · rintro W1 W2 ⟨e, c, bx, n, ι, he, hQ, hS⟩ hb
      exact ⟨e, c, bx, n, ι, he, hQ, below hS hb⟩
    · rintro k W1 ⟨s, ι, hi, hS⟩
      refine ⟨hS.h.wi.evo.size, fun g hg hM => hS.h.wi.block g hg fun hG => hM ?_⟩
      obtain ⟨b, x, e1, e2⟩ := hG
      exact .inr ⟨b, x, e1, e2⟩
    · -- one round
      rintro k W0 W x y ⟨s, ι, hi, hS0⟩ hWW hy z1 z4
      have hS := below hS0 hWW
      have z2 : x.size = ps.size := by rw [z1]; exact hyn y (List.mem_of_getElem? hy)
      have z3 : ∀ (i : Nat) (v : Value) (a : AV), x[i]? = some v → y[i]? = some a → RepA ι (Mof (cO (rec .ready none)) ι (bget (I s).1)) W v a := fun i v a hv ha => (z4 i v a hv ha ι).keep (fun _ _ h => h) (fun g hg hM => by
        rcases hM with h1 | ⟨b, u, h1, h2⟩
        · exact .inl (.inl h1)
        · have hd := (hS0.h.dom b g h2).2
          rcases hS.h.own b u h1 with h3 | ⟨g', e1, e2, -⟩
          · rw [h3.2] at h2; cases h2
          · rw [h2] at e1
            cases e1
            rcases e2 with e2 | ⟨b', u', e3, e4⟩
            · exact .inr ⟨e2, hd⟩
            · exact .inl (.inr ⟨b', u', e3, e4⟩)) (.refl _) (fun _ _ _ => rfl)
      obtain ⟨hl, -⟩ := cxO_l (hrC _ _) hS.h
      have hl' := hl
      rw [hrec] at hl'
      have hyl := run_yield (P := P) (args := x) hl' z2
      refine ⟨fn, _, assign, body, hyl, roundIn_of_wpIn hfn ?_⟩
      have hfold := args_fold (N := cx.N) ps.toList x.toList y a0.tmps E hS.size hS.env (by simpa using z1) (fun i v b hv hb => z3 i v b (by simpa using hv) hb) (by
        intro t ht
        rw [List.all_eq_true] at hps
        simpa using hps t ht)
      have htm : ((ps.zip x).foldl (fun tmps (t, a) => tmps.setIfInBounds t a) a.tmps) = (ps.toList.zip x.toList).foldl (fun t p => t.setIfInBounds p.1 p.2) a0.tmps := by
        rw [← Array.foldl_toList, Array.toList_zip]
      have hS1 : Sat (cO (rec .ready none)) ι (LS.toAS ⟨psE ps.toList y E, (I s).1, (I s).2⟩) { tmps := (ps.zip x).foldl (fun tmps (t, a) => tmps.setIfInBounds t a) a.tmps, defers := [] } W :=
        ⟨hS.h, by show Array.size _ = _; rw [htm]; exact hfold.1, trivial, fun t => by show RepA _ _ _ (Array.getD _ _ _) _; rw [htm]; exact hfold.2 t⟩
      have hFO : ∀ (o : Obj) (b g : Nat), (cO o).F b = some g → b < p := fun o b g h => by
        have h : (if b < p then ι0 b else none) = some g := h
        split at h
        · assumption
        · cases h
      have hW1 := W_sound (cx := cO (rec .ready none)) hm assign _ _ hoka (round s y (by rw [hi]; exact hy) (cO (rec .ready none)) rfl (hFO _)) ι _ W hS1
      refine wpIn_mono hW1 ?_
      rintro e a1 W2 ⟨ι2, A2, hS2, L2, rfl, hL2⟩
      cases e with
      | normal =>
        obtain ⟨hl2, -⟩ := cxO_l (hrC _ _) hS2.h
        obtain ⟨t1, t2⟩ := cxO_turn (o' := rec .busy none) (hrC _ _) (hrC _ _) hS2.h
        refine ⟨W2.putObj (w.heap.size + 1) (rec .busy none), ?_, ?_⟩
        · rw [hrec] at hl2 ⊢
          exact run_beginRound hl2 rfl
        have hS3 : Sat (cO (rec .busy none)) ι2 L2.toAS a1 (W2.putObj (w.heap.size + 1) (rec .busy none)) := by
          refine ⟨t1, hS2.size, ?_, fun t => t2 _ _ (hS2.env t)⟩
          have : ∀ (l : List Deferred), Marks (cO (rec .ready none)) W2 l → Marks (cO (rec .busy none)) (W2.putObj (w.heap.size + 1) (rec .busy none)) l := by
            intro l
            induction l with
            | nil => intro _; trivial
            | cons d l ih =>
              rintro ⟨⟨D, rfl, h1, h2, h3⟩, h4⟩
              refine ⟨⟨D, rfl, ?_, ?_, h3⟩, ih h4⟩
              · have : (wo w (rec .ready none)).heap.size ≤ D := h1
                show (wo w (rec .busy none)).heap.size ≤ D
                rw [wo_size] at this ⊢; exact this
              · rw [World.putObj_heap_other (by rintro rfl; rw [hl2, hrec] at h2; cases h2)]; exact h2
          exact this _ hS2.defers
        have hW2 := W_sound (cx := cO (rec .busy none)) hm body _ _ hokb (hL2 (cO (rec .busy none)) rfl (hFO _)) ι2 a1 _ hS3
        refine wpIn_mono hW2 ?_
        rintro e a3 W3 ⟨ι3, A3, hS4, L3, rfl, hL3⟩
        obtain ⟨hl3, -⟩ := cxO_l (hrC _ _) hS4.h
        have hl3' := hl3
        rw [hrec] at hl3'
        cases e with
        | normal =>
          obtain ⟨s', r', hi', hcut⟩ := hL3
          have hS5 : Sat (cO (rec .busy none)) ι3 (LS.toAS ⟨E, L3.box, L3.next⟩) a0 W3 := ⟨hS4.h, hsz0, trivial, henv hS4.h⟩
          have hS6 := hS5.cut hcut.cut
          obtain ⟨u1, u2⟩ := cxO_turn (o' := rec .ready none) (hrC _ _) (hrC _ _) hS6.h
          have hend := run_endRound (P := P) none hl3'
          refine ⟨_, _, hend, .inl ⟨rfl, s', cutTo (fun b => decide (b < (I s').2)) r' ι3, by rw [hi', hi], ?_⟩⟩
          have : (Obj.loop { state := if (none : Option Code).isNone then .ready else .done, pending := none, fn, tmps := a.tmps, params := ps, assign, body, defers := w.heap.size }) = rec .ready none := by rw [hrec]; rfl
          rw [this]
          exact ⟨u1, hsz0, trivial, fun t => u2 _ _ (hS6.env t)⟩
        | ret =>
          have hS5 : Sat (cO (rec .busy none)) ι3 (LS.toAS ⟨E, L3.box, L3.next⟩) a0 W3 := ⟨hS4.h, hsz0, trivial, henv hS4.h⟩
          obtain ⟨u1, u2⟩ := cxO_turn (o' := rec .done (some .ret)) (hrC _ _) (hrC _ _) hS5.h
          have hend := run_endRound (P := P) (some .ret) hl3'
          refine ⟨_, _, hend, .inr ⟨rfl, .ret, .ret, L3.box, L3.next, ι3, .inl ⟨rfl, rfl⟩, hL3, ?_⟩⟩
          have : (Obj.loop { state := if (some Code.ret).isNone then .ready else .done, pending := some .ret, fn, tmps := a.tmps, params := ps, assign, body, defers := w.heap.size }) = rec .done (some .ret) := by rw [hrec]; rfl
          rw [this]
          exact ⟨u1, hsz0, trivial, fun t => u2 _ _ (hS5.env t)⟩
        | exit id =>
          have hS5 : Sat (cO (rec .busy none)) ι3 (LS.toAS ⟨E, L3.box, L3.next⟩) a0 W3 := ⟨hS4.h, hsz0, trivial, henv hS4.h⟩
          obtain ⟨u1, u2⟩ := cxO_turn (o' := rec .done (some (.exit id))) (hrC _ _) (hrC _ _) hS5.h
          have hend := run_endRound (P := P) (some (.exit id)) hl3'
          refine ⟨_, _, hend, .inr ⟨rfl, .exit id, .exit id, L3.box, L3.next, ι3, .inr ⟨id, rfl, rfl⟩, hL3, ?_⟩⟩
          have : (Obj.loop { state := if (some (Code.exit id)).isNone then .ready else .done, pending := some (.exit id), fn, tmps := a.tmps, params := ps, assign, body, defers := w.heap.size }) = rec .done (some (.exit id)) := by rw [hrec]; rfl
          rw [this]
          exact ⟨u1, hsz0, trivial, fun t => u2 _ _ (hS5.env t)⟩
        | _ => exact hL3.elim
      | _ => exact hL2.elim
    · obtain ⟨h0, k0⟩ := cxO_start (o := rec .ready none) p hs.h
      exact ⟨s₀, ι0, hi0, h0, hs.size, trivial, fun t => k0 _ _ (hs.env t)⟩

theorem range_code {σ : Type} {g : Operand} {ps : Array Nat} {assign body : Code} {Q : Exit → LS → Prop} {A : LS} (hm : P.follows .mixedOrders = true) (hro : cx.R = none) (p : Nat) (E : Env) (I : σ → Boxes × Nat) (idx : σ → Nat) (r : Nat → Nat) (s₀ : σ)
    {gf : FuncId} {caps : List AV} {xs : List (Array Value)} (ys : List (List AV)) (hit : Iter P gf caps xs) (hcg : Callable P gf) (h₀ : LCut cx r A ⟨E, (I s₀).1, (I s₀).2⟩) (hi0 : idx s₀ = 0) (hF : ∀ b g, cx.F b = some g → b < p)
    (hE0 : (E.all fun q => q.2.names fun b => decide (b < p)) = true) (hg : oeval E g = .fn (.func gf) [] caps) (hgd : caps.all AV.isData = true)
    (hlen : xs.length = ys.length) (hxy : ∀ (k : Nat) (x : Array Value) (y : List AV), xs[k]? = some x → ys[k]? = some y → x.size = y.length ∧ x.size = ps.size ∧ ∀ (i : Nat) (v : Value) (a : AV), x[i]? = some v → y[i]? = some a → ∀ ι M w, RepA ι M w v a)
    (hps : ps.toList.all (fun t => decide (t < cx.N)) = true) (hoka : bodyOK cx.N assign = true) (hokb : bodyOK cx.N body = true)
    (round : ∀ s y, ys[idx s]? = some y → ∀ cx' : Cx, cx'.N = cx.N → (∀ b g, cx'.F b = some g → b < p) →
      W P cx' assign (lthen (fun A1 => ∀ cx'' : Cx, cx''.N = cx.N → (∀ b g, cx''.F b = some g → b < p) → W P cx'' body (RoundQ cx'' E I idx (idx s) Q) A1) (fun _ _ => False)) ⟨psE ps.toList y E, (I s).1, (I s).2⟩)
    (done : ∀ s, idx s = ys.length → Q .normal ⟨E, (I s).1, (I s).2⟩) : CodeW P cx (.rangeFunc g ps assign body) Q A := by
  refine range_codeY hm hro p E I idx r s₀ ys (fun lb l J Jx W M h1 h2 h3 j1 j2 j3 j4 j5 => ?_) hcg h₀ hi0 hF hE0 hg hgd (fun y hy => ?_) hps hoka hokb round done
  · rw [← hlen]
    refine hit lb l J Jx W M h1 h2 h3 j1 j2 j3 (fun k W1 x hJ hx => ?_) j5
    have hk := (List.getElem?_eq_some_iff.1 hx).1
    have hy : ys[k]? = some ys[k] := List.getElem?_eq_getElem (by omega)
    exact j4 k W1 W1 x _ hJ (.refl _ _) hy (hxy k x _ hx hy).1 fun i v a hv ha ι => (hxy k x _ hx hy).2.2 i v a hv ha ι _ _
  · obtain ⟨k, hk, rfl⟩ := List.getElem_of_mem hy
    obtain ⟨z1, z2, -⟩ := hxy k _ _ (List.getElem?_eq_getElem (by omega)) (List.getElem?_eq_getElem hk)
    omega
end Go.Proofs.YtkonljmmdifnaaaGreat.V
namespace Go.Proofs
open Go.Shelf
def Tryz.sortInt_ren : Go.Shelf.Ren := ⟨fun | 53 => 66 | 64 => 74 | 63 => 96 | 78 => 105 | 79 => 106 | 70 => 135 | 71 => 136 | 72 => 137 | 73 => 138 | 74 => 139 | 75 => 140 | 59 => 141 | 76 => 142 | 77 => 143 | 88 => 158 | 89 => 145 | 90 => 146 | 91 => 159 | 92 => 160 | 68 => 75 | 96 => 170 | n => n, fun | 22 => 65 | 23 => 3 | 3 => 3 | 51 => 111 | 0 => 0 | 67 => 141 | 69 => 143 | 4 => 4 | 61 => 135 | 60 => 134 | 44 => 127 | 5 => 5 | 9 => 9 | 75 => 164 | 79 => 168 | 83 => 178 | 84 => 179 | n => n, fun | n => n⟩
theorem Tryz.sortInt : Go.Proofs.SlLaysN.n53 Tryz.prog Tryz.sortInt_ren := {
  mixed := by kernel_rfl
  f53 := ⟨Tryz.f66.name, by decide, Tryz.func66.trans (congrArg some (by kernel_rfl))⟩
  f59 := ⟨Tryz.f141.name, by decide, Tryz.func141.trans (congrArg some (by kernel_rfl))⟩
  f63 := ⟨Tryz.f96.name, by decide, Tryz.func96.trans (congrArg some (by kernel_rfl))⟩
  f64 := Tryz.func74.trans (congrArg some (by kernel_rfl))
  f68 := ⟨Tryz.f75.name, by decide, Tryz.func75.trans (congrArg some (by kernel_rfl))⟩
  f70 := ⟨Tryz.f135.name, by decide, Tryz.func135.trans (congrArg some (by kernel_rfl))⟩
  f71 := ⟨Tryz.f136.name, by decide, Tryz.func136.trans (congrArg some (by kernel_rfl))⟩
  f72 := ⟨Tryz.f137.name, by decide, Tryz.func137.trans (congrArg some (by kernel_rfl))⟩
  f73 := ⟨Tryz.f138.name, by decide, Tryz.func138.trans (congrArg some (by kernel_rfl))⟩
  f74 := ⟨Tryz.f139.name, by decide, Tryz.func139.trans (congrArg some (by kernel_rfl))⟩
  f75 := ⟨Tryz.f140.name, by decide, Tryz.func140.trans (congrArg some (by kernel_rfl))⟩
  f76 := ⟨Tryz.f142.name, by decide, Tryz.func142.trans (congrArg some (by kernel_rfl))⟩
  f77 := ⟨Tryz.f143.name, by decide, Tryz.func143.trans (congrArg some (by kernel_rfl))⟩
  f78 := Tryz.func105.trans (congrArg some (by kernel_rfl))
  f79 := Tryz.func106.trans (congrArg some (by kernel_rfl))
  f88 := ⟨Tryz.f158.name, by decide, Tryz.func158.trans (congrArg some (by kernel_rfl))⟩
  f89 := Tryz.func145.trans (congrArg some (by kernel_rfl))
  f90 := Tryz.func146.trans (congrArg some (by kernel_rfl))
  f91 := ⟨Tryz.f159.name, by decide, Tryz.func159.trans (congrArg some (by kernel_rfl))⟩
  f92 := ⟨Tryz.f160.name, by decide, Tryz.func160.trans (congrArg some (by kernel_rfl))⟩
  f96 := ⟨Tryz.f170.name, by decide, Tryz.func170.trans (congrArg some (by kernel_rfl))⟩
  t0 := Tryz.underlying0
  a0 := Tryz.isAgg0
  z0 := Tryz.sizeOf0
  v0 := Tryz.zeroValue0
  t3 := Tryz.underlying3
  a3 := Tryz.isAgg3
  z3 := Tryz.sizeOf3
  v3 := Tryz.zeroValue3
  t4 := Tryz.underlying4
  a4 := Tryz.isAgg4
  z4 := Tryz.sizeOf4
  v4 := Tryz.zeroValue4
  t5 := Tryz.underlying5
  a5 := Tryz.isAgg5
  z5 := Tryz.sizeOf5
  v5 := Tryz.zeroValue5
  t9 := Tryz.underlying9
  a9 := Tryz.isAgg9
  z9 := Tryz.sizeOf9
  v9 := Tryz.zeroValue9
  t22 := Tryz.underlying65
  a22 := Tryz.isAgg65
  z22 := Tryz.sizeOf65
  v22 := Tryz.zeroValue65
  t23 := Tryz.underlying3
  a23 := Tryz.isAgg3
  z23 := Tryz.sizeOf3
  v23 := Tryz.zeroValue3
  t44 := Tryz.underlying127
  a44 := Tryz.isAgg127
  z44 := Tryz.sizeOf127
  v44 := Tryz.zeroValue127
  t51 := Tryz.underlying111
  a51 := Tryz.isAgg111
  z51 := Tryz.sizeOf111
  v51 := Tryz.zeroValue111
  t60 := Tryz.underlying134
  a60 := Tryz.isAgg134
  z60 := Tryz.sizeOf134
  v60 := Tryz.zeroValue134
  t61 := Tryz.underlying135
  a61 := Tryz.isAgg135
  z61 := Tryz.sizeOf135
  v61 := Tryz.zeroValue135
  t67 := Tryz.underlying141
  a67 := Tryz.isAgg141
  z67 := Tryz.sizeOf141
  v67 := Tryz.zeroValue141
  t69 := Tryz.underlying143
  a69 := Tryz.isAgg143
  z69 := Tryz.sizeOf143
  v69 := Tryz.zeroValue143
  t75 := Tryz.underlying164
  a75 := Tryz.isAgg164
  z75 := Tryz.sizeOf164
  v75 := Tryz.zeroValue164
  t79 := Tryz.underlying168
  a79 := Tryz.isAgg168
  z79 := Tryz.sizeOf168
  v79 := Tryz.zeroValue168
  t83 := Tryz.underlying178
  a83 := Tryz.isAgg178
  z83 := Tryz.sizeOf178
  v83 := Tryz.zeroValue178
  t84 := Tryz.underlying179
  a84 := Tryz.isAgg179
  z84 := Tryz.sizeOf179
  v84 := Tryz.zeroValue179 }
def Tryz.sortSpan_ren : Go.Shelf.Ren := ⟨fun | 6 => 42 | 15 => 74 | 14 => 73 | 28 => 105 | 29 => 106 | 20 => 97 | 21 => 98 | 22 => 99 | 23 => 100 | 24 => 101 | 25 => 102 | 26 => 103 | 27 => 104 | 46 => 144 | 47 => 145 | 48 => 146 | 49 => 147 | 50 => 148 | 57 => 161 | n => n, fun | 22 => 44 | 24 => 23 | 25 => 84 | 3 => 3 | 39 => 111 | 0 => 0 | 53 => 141 | 55 => 143 | 4 => 4 | 46 => 135 | 45 => 134 | 50 => 127 | 5 => 5 | 9 => 9 | 66 => 164 | 70 => 168 | 76 => 178 | 77 => 179 | n => n, fun | n => n⟩
theorem Tryz.sortSpan : Go.Proofs.SlLaysF0.n6 Tryz.prog Tryz.sortSpan_ren := {
  mixed := by kernel_rfl
  f6 := ⟨Tryz.f42.name, by decide, Tryz.func42.trans (congrArg some (by kernel_rfl))⟩
  f14 := ⟨Tryz.f73.name, by decide, Tryz.func73.trans (congrArg some (by kernel_rfl))⟩
  f15 := Tryz.func74.trans (congrArg some (by kernel_rfl))
  f20 := ⟨Tryz.f97.name, by decide, Tryz.func97.trans (congrArg some (by kernel_rfl))⟩
  f21 := ⟨Tryz.f98.name, by decide, Tryz.func98.trans (congrArg some (by kernel_rfl))⟩
  f22 := ⟨Tryz.f99.name, by decide, Tryz.func99.trans (congrArg some (by kernel_rfl))⟩
  f23 := ⟨Tryz.f100.name, by decide, Tryz.func100.trans (congrArg some (by kernel_rfl))⟩
  f24 := ⟨Tryz.f101.name, by decide, Tryz.func101.trans (congrArg some (by kernel_rfl))⟩
  f25 := ⟨Tryz.f102.name, by decide, Tryz.func102.trans (congrArg some (by kernel_rfl))⟩
  f26 := ⟨Tryz.f103.name, by decide, Tryz.func103.trans (congrArg some (by kernel_rfl))⟩
  f27 := ⟨Tryz.f104.name, by decide, Tryz.func104.trans (congrArg some (by kernel_rfl))⟩
  f28 := Tryz.func105.trans (congrArg some (by kernel_rfl))
  f29 := Tryz.func106.trans (congrArg some (by kernel_rfl))
  f46 := ⟨Tryz.f144.name, by decide, Tryz.func144.trans (congrArg some (by kernel_rfl))⟩
  f47 := Tryz.func145.trans (congrArg some (by kernel_rfl))
  f48 := Tryz.func146.trans (congrArg some (by kernel_rfl))
  f49 := ⟨Tryz.f147.name, by decide, Tryz.func147.trans (congrArg some (by kernel_rfl))⟩
  f50 := ⟨Tryz.f148.name, by decide, Tryz.func148.trans (congrArg some (by kernel_rfl))⟩
  f57 := ⟨Tryz.f161.name, by decide, Tryz.func161.trans (congrArg some (by kernel_rfl))⟩
  t0 := Tryz.underlying0
  a0 := Tryz.isAgg0
  z0 := Tryz.sizeOf0
  v0 := Tryz.zeroValue0
  t3 := Tryz.underlying3
  a3 := Tryz.isAgg3
  z3 := Tryz.sizeOf3
  v3 := Tryz.zeroValue3
  t4 := Tryz.underlying4
  a4 := Tryz.isAgg4
  z4 := Tryz.sizeOf4
  v4 := Tryz.zeroValue4
  t5 := Tryz.underlying5
  a5 := Tryz.isAgg5
  z5 := Tryz.sizeOf5
  v5 := Tryz.zeroValue5
  t9 := Tryz.underlying9
  a9 := Tryz.isAgg9
  z9 := Tryz.sizeOf9
  v9 := Tryz.zeroValue9
  t22 := Tryz.underlying44
  a22 := Tryz.isAgg44
  z22 := Tryz.sizeOf44
  v22 := Tryz.zeroValue44
  t25 := Tryz.underlying84
  a25 := Tryz.isAgg84
  z25 := Tryz.sizeOf84
  v25 := Tryz.zeroValue84
  t39 := Tryz.underlying111
  a39 := Tryz.isAgg111
  z39 := Tryz.sizeOf111
  v39 := Tryz.zeroValue111
  t45 := Tryz.underlying134
  a45 := Tryz.isAgg134
  z45 := Tryz.sizeOf134
  v45 := Tryz.zeroValue134
  t46 := Tryz.underlying135
  a46 := Tryz.isAgg135
  z46 := Tryz.sizeOf135
  v46 := Tryz.zeroValue135
  t50 := Tryz.underlying127
  a50 := Tryz.isAgg127
  z50 := Tryz.sizeOf127
  v50 := Tryz.zeroValue127
  t53 := Tryz.underlying141
  a53 := Tryz.isAgg141
  z53 := Tryz.sizeOf141
  v53 := Tryz.zeroValue141
  t55 := Tryz.underlying143
  a55 := Tryz.isAgg143
  z55 := Tryz.sizeOf143
  v55 := Tryz.zeroValue143
  t66 := Tryz.underlying164
  a66 := Tryz.isAgg164
  z66 := Tryz.sizeOf164
  v66 := Tryz.zeroValue164
  t70 := Tryz.underlying168
  a70 := Tryz.isAgg168
  z70 := Tryz.sizeOf168
  v70 := Tryz.zeroValue168
  t76 := Tryz.underlying178
  a76 := Tryz.isAgg178
  z76 := Tryz.sizeOf178
  v76 := Tryz.zeroValue178
  t77 := Tryz.underlying179
  a77 := Tryz.isAgg179
  z77 := Tryz.sizeOf179
  v77 := Tryz.zeroValue179 }
end Go.Proofs
set_option linter.unusedSimpArgs false
set_option linter.unusedVariables false
namespace Go.Proofs.YtkonljmmdifnaaaGreat.V
open Go.RowKit Go.Sort

abbrev msort (l : List Int) : List Int := l.mergeSort fun x y => decide (x ≤ y)

theorem putRow_setRow {α : Type} [Inhabited α] {enc : α → Value} {w : World} {g n : Nat} {d : Array α} {c : Array Value} {t : TypeId} {fr : Nat × Nat} (h : w.heap[g]? = some (.cells c t fr)) :
    putRow enc (Sort.ahead w n) g 0 d = (Sort.ahead w n).setRow g (putCells enc 0 d c) := by
  unfold putRow World.setRow
  have h' : (Sort.ahead w n).heap[g]? = some (.cells c t fr) := h
  have := mapBlock_congr (Sort.ahead w n) g (putCells enc 0 d) (fun _ => putCells enc 0 d c) (fun c' e fr' hh => by rw [h'] at hh; cases hh; rfl)
  rw [this]
  unfold mapBlock
  congr 1

theorem below_ahead (w : World) (n : Nat) : Below w.heap.size w (Sort.ahead w n) := ⟨rfl, rfl, rfl, Nat.le_refl _, fun _ _ => rfl⟩
theorem below_grow (w : World) (os : Array Obj) : Below w.heap.size w (grow w os) :=
  ⟨rfl, rfl, rfl, by simp [grow], fun k hk => by simp [grow, Array.getElem?_append, hk]⟩

/-- A callee that lays a row of an own block anew, and else leaves what was there. -/
theorem funB_row {P : Program} {f : FuncId} {α : Type} [Inhabited α] {enc : α → Value} {F : List AV} {F' : List AV} {t : TypeId} {k n : Nat} {args : List AV} (hF : F.length = n * k) (hF' : F'.length = n * k)
    (hc : ∀ (M : Nat → Prop) (ι : Nat → Option Nat) (w : World) (g cap : Nat) (c : Array Value) (vs : Array Value), w.heap[g]? = some (.cells c t (0, 0)) → n ≤ cap → cap ≤ maxLen → cap * k = c.size → (∀ (j : Nat) (v : Value) (y : AV), c[j]? = some v → F[j]? = some y → RepA ι M w v y) →
      vs.size = args.length → (∀ (i : Nat) (v : Value) (y : AV), vs[i]? = some v → args[i]? = some y → RepA ι M w v y) →
      Calls P f (#[.slice (some ⟨g, 0, none⟩) n cap] ++ vs) w fun e w' => e = .returned (.tuple #[]) ∧ ∃ (m : Nat) (os : Array Obj) (d : Array Value), d.size = n * k ∧ (∀ (j : Nat) (y : AV), F'[j]? = some y → ∃ v, d[j]? = some v ∧ v.oneCell' = true ∧ y = .v v) ∧ w' = grow (putRow id (Sort.ahead w m) g 0 d) os)
    (h0 : n = 0 → ∀ (M : Nat → Prop) (ι : Nat → Option Nat) (w : World) (A : Option Addr) (cap : Nat) (vs : Array Value), vs.size = args.length → (∀ (i : Nat) (v : Value) (y : AV), vs[i]? = some v → args[i]? = some y → RepA ι M w v y) → Calls P f (#[.slice A 0 cap] ++ vs) w fun e w' => e = .returned (.tuple #[]) ∧ w' = w) :
    FunB P f [(0, ⟨t, F⟩)] (.osl 0 k 0 n :: args) (.tup []) [(0, some ⟨t, F'⟩)] := by
  intro M0 ι w vs hs hsz hv
  obtain ⟨v, us, rfl⟩ : ∃ v us, vs = #[v] ++ us := by
    refine ⟨vs[0]'(by rw [hsz]; simp), (vs.toList.drop 1).toArray, ?_⟩
    apply Array.ext'
    have : 0 < vs.toList.length := by simp [hsz]
    simp
    rcases hvl : vs.toList with _ | ⟨x, l⟩
    · simp [hvl] at this
    · have : vs[0]'(by rw [hsz]; simp) = x := by
        have h2 : vs.toList[0]? = some x := by rw [hvl]; rfl
        rw [Array.getElem?_toList] at h2
        exact (Array.getElem?_eq_some_iff.1 h2).2
      simp [this]
  have hus : us.size = args.length := by simp at hsz; omega
  have hrest : ∀ (i : Nat) (v : Value) (y : AV), us[i]? = some v → args[i]? = some y → RepA ι (Mof (bcx M0 ι [(0, ⟨t, F⟩)] w 0) ι (bget (lives [(0, ⟨t, F⟩)]))) w v y := fun i u y hu hy =>
    hv (i + 1) u y (by rw [Array.getElem?_append_right (by simp)]; exact hu) (by simpa using hy)
  have h1 := hv 0 v (.osl 0 k 0 n) (by rw [Array.getElem?_append_left (by simp)]; rfl) rfl
  have hbox : bget (lives [(0, (⟨t, F⟩ : Bx))]) 0 = some ⟨t, F⟩ := by simp [lives, bget, bput]
  have finish : ∀ (g : Nat) (c : Array Value) (m : Nat) (os : Array Obj) (d : Array Value), ι 0 = some g → w.heap[g]? = some (.cells c t (0, 0)) → n * k ≤ c.size → d.size = n * k → (∀ (j : Nat) (y : AV), F'[j]? = some y → ∃ v, d[j]? = some v ∧ v.oneCell' = true ∧ y = .v v) →
      ∃ u ι', Ending.returned (.tuple #[]) = Ending.returned u ∧ (∀ b, inl [(0, (⟨t, F⟩ : Bx))] b = true → ι' b = ι b) ∧ HSat (bcx M0 ι [(0, ⟨t, F⟩)] w 0) ι' (bget ([(0, some ⟨t, F'⟩)] ++ lives [(0, ⟨t, F⟩)])) (fun b => inl [(0, (⟨t, F⟩ : Bx))] b = true ∨ inl [(0, some (⟨t, F'⟩ : Bx))] b = true) (grow (putRow id (Sort.ahead w m) g 0 d) os) ∧ Oth w (grow (putRow id (Sort.ahead w m) g 0 d) os) ∧
        RepA ι' (Mof (bcx M0 ι [(0, ⟨t, F⟩)] w 0) ι' (bget ([(0, some ⟨t, F'⟩)] ++ lives [(0, ⟨t, F⟩)]))) (grow (putRow id (Sort.ahead w m) g 0 d) os) u (.tup []) := by
    intro g c m os d hg hh hck hd hdv
    have s1 := step_below hs (below_ahead w m)
    have hh' : (Sort.ahead w m).heap[g]? = some (.cells c t (0, 0)) := hh
    have hps : (putCells id 0 d c).size = c.size := by simp [putCells]
    have s2 := step_row s1.h (bx := ⟨t, F⟩) (bx' := ⟨t, F'⟩) (c' := putCells id 0 d c) hbox hg hh' hps (by rw [hps]; simp only; omega) rfl (fun j v y hv hy => by
      obtain ⟨u, e1, e2, rfl⟩ := hdv j y hy
      have hj : j < d.size := (Array.getElem?_eq_some_iff.1 e1).1
      have : v = u := by
        simp only [putCells, Array.getElem?_mapIdx, Option.map_eq_some_iff] at hv
        obtain ⟨x, hx, rfl⟩ := hv
        rw [if_pos ⟨Nat.zero_le _, by omega⟩]
        simp only [Nat.sub_zero, id]
        rw [getElem!_pos d j hj]
        exact (Array.getElem?_eq_some_iff.1 e1).2
      subst this
      exact ⟨e2, .d (.v _)⟩)
    rw [← putRow_setRow hh] at s2
    have s3 := step_below s2.h (below_grow _ os)
    have hM : bget ([(0, some (⟨t, F'⟩ : Bx))] ++ lives [(0, ⟨t, F⟩)]) = bput (bget (lives [(0, (⟨t, F⟩ : Bx))])) [(0, some ⟨t, F'⟩)] := by
      funext b
      simp [bget, bput, lives]
    refine ⟨.tuple #[], ι, rfl, fun _ _ => rfl, ?_, (s1.oth.trans s2.oth).trans s3.oth, .d (.tup rfl fun i x y h _ => by simp at h)⟩
    rw [hM]
    refine s3.h.used_mono fun b hb => ?_
    rcases hb with hb | ⟨r, hb⟩
    · exact .inl hb
    · refine .inr ?_
      simp at hb
      simp [inl, hb.1]
  have nil : n = 0 → ∀ (A : Option Addr) (cap : Nat), v = .slice A 0 cap → Calls P f (#[v] ++ us) w fun e w' => ∃ u ι', e = .returned u ∧ (∀ b, inl [(0, (⟨t, F⟩ : Bx))] b = true → ι' b = ι b) ∧ HSat (bcx M0 ι [(0, ⟨t, F⟩)] w 0) ι' (bget ([(0, some ⟨t, F'⟩)] ++ lives [(0, ⟨t, F⟩)])) (fun b => inl [(0, (⟨t, F⟩ : Bx))] b = true ∨ inl [(0, some (⟨t, F'⟩ : Bx))] b = true) w' ∧ Oth w w' ∧
        RepA ι' (Mof (bcx M0 ι [(0, ⟨t, F⟩)] w 0) ι' (bget ([(0, some ⟨t, F'⟩)] ++ lives [(0, ⟨t, F⟩)]))) w' u (.tup []) := by
    rintro hn A cap rfl
    refine (h0 hn _ ι w A cap us hus hrest).mono ?_
    rintro e w' ⟨rfl, rfl⟩
    have hF0 : F = [] := List.eq_nil_of_length_eq_zero (by rw [hF, hn, Nat.zero_mul])
    have hF1 : F' = [] := List.eq_nil_of_length_eq_zero (by rw [hF', hn, Nat.zero_mul])
    have hM : bget ([(0, some (⟨t, F'⟩ : Bx))] ++ lives [(0, ⟨t, F⟩)]) = bget (lives [(0, (⟨t, F⟩ : Bx))]) := by
      funext b
      subst hF0 hF1
      by_cases hb : b = 0 <;> simp [bget, bput, lives, hb]
    refine ⟨.tuple #[], ι, rfl, fun _ _ => rfl, ?_, Oth.refl _, .d (.tup rfl fun i x y h _ => by simp at h)⟩
    rw [hM]
    exact hs.used_mono fun b hb => .inl hb
  generalize hy : AV.osl 0 k 0 n = y at h1
  cases h1 with
  | osl h hn hm hh hsz' =>
    cases hy
    rename_i g cap c t'
    obtain ⟨g', e1, -, -, c', e4, e5, e6⟩ : ∃ g, ι 0 = some g ∧ ((bcx M0 ι [(0, ⟨t, F⟩)] w 0).base ≤ g ∨ (bcx M0 ι [(0, ⟨t, F⟩)] w 0).G g) ∧ ¬ (bcx M0 ι [(0, ⟨t, F⟩)] w 0).M0 g ∧ BoxRep ι (Mof (bcx M0 ι [(0, ⟨t, F⟩)] w 0) ι (bget (lives [(0, ⟨t, F⟩)]))) w g ⟨t, F⟩ := by
      rcases hs.own 0 _ hbox with ⟨-, h2⟩ | h2
      · rw [h] at h2; cases h2
      · exact h2
    rw [h] at e1
    cases e1
    rw [hh] at e4
    cases e4
    rw [Nat.zero_add] at hsz'
    refine (hc _ ι w g cap c us hh hn hm hsz' (fun j u y hu hy => (e6 j u y hu hy).2) hus hrest).mono ?_
    rintro e w' ⟨rfl, m, os, d, hd, hdv, rfl⟩
    exact finish g c m os d h hh (by rw [← hsz']; exact Nat.mul_le_mul_right k hn) hd hdv
  | osl0 A b k' o =>
    cases hy
    exact nil rfl A 0 rfl
  | d h => subst hy; cases h
  | _ => cases hy

theorem sortI_f (l : List Int) (hl : l.length < 4611686018427387904) : FunB Tryz.prog 66 [(0, ⟨3, rowC irow l⟩)] [.osl 0 1 0 l.length] (.tup []) [(0, some ⟨3, rowC irow (msort l)⟩)] := by
  refine funB_row (enc := Value.int .i64) (by rw [rowI_len, Nat.mul_one]) (by rw [rowI_len, List.length_mergeSort, Nat.mul_one]) ?_ ?_
  · intro M ι w g cap c vs hh hn hm hck hcell hvs _
    obtain rfl : vs = #[] := Array.eq_empty_of_size_eq_zero (by simpa using hvs)
    have hH : Holds (Value.int .i64) w g 0 l.toArray := fun j hj => by
      have hj : j < l.length := by simpa using hj
      have hjc : j < c.size := by omega
      have := hcell j c[j] (int l[j]) (Array.getElem?_eq_getElem hjc) (rowI_some (List.getElem?_eq_getElem hj))
      have he := this.ofV
      have hg! : l.toArray[j]! = l[j] := by rw [getElem!_pos l.toArray j (by simpa using hj)]; simp
      rw [Nat.zero_add, hg!]
      refine ⟨?_, ?_⟩
      · simp only [World.cell?, hh]
        rw [Array.getElem?_eq_getElem hjc, he]; rfl
      · simp [World.frozen?, hh]
    have hc := AnyG.slices_Sort_int Tryz.sortInt g 0 cap l w hH (Array.getElem?_eq_some_iff.1 hh).1 hl
    refine Calls.mono (show Calls Tryz.prog 66 _ w _ from hc) ?_
    rintro e w' ⟨rfl, m, os, rfl⟩
    refine ⟨rfl, m, os, ((msort l).map (Value.int .i64)).toArray, by simp, fun j y hy => ?_, ?_⟩
    · rw [rowI_at] at hy
      simp only [Option.map_eq_some_iff] at hy
      obtain ⟨z, hz, rfl⟩ := hy
      exact ⟨.int .i64 z, by simp [hz], rfl, rfl⟩
    · congr 1
      unfold putRow
      refine mapBlock_congr _ _ _ _ fun c' e fr _ => ?_
      unfold putCells
      apply Array.ext
      · simp
      · intro i h1 h2
        simp only [Array.getElem_mapIdx, List.size_toArray, List.length_map, Nat.zero_add, Nat.sub_zero, id]
        by_cases hi : i < (msort l).length
        · rw [if_pos ⟨Nat.zero_le _, hi⟩, if_pos ⟨Nat.zero_le _, hi⟩, getElem!_pos _ _ (by simpa using hi), getElem!_pos _ _ (by simpa using hi)]
          simp
        · rw [if_neg (fun h => hi h.2), if_neg (fun h => hi h.2)]
  · intro hn M ι w A cap vs hvs _
    obtain rfl : vs = #[] := Array.eq_empty_of_size_eq_zero (by simpa using hvs)
    exact AnyG.slices_Sort_int_none Tryz.sortInt A cap w
end Go.Proofs.YtkonljmmdifnaaaGreat.V
set_option linter.unusedSimpArgs false
set_option linter.unusedVariables false
namespace Go.Proofs.YtkonljmmdifnaaaGreat.V
open Go.RowKit

/-- What holds. -/
structure St where
  on : Bool
  rk : Int
  rv : Int
  ra : Int
  rz : Int
  covers : List Cover
deriving DecidableEq
structure Sl where
  from_ : Int
  to_ : Int
  st : St
  yearly : Int
deriving DecidableEq
@[go_sem] def Sl.flat (s : Sl) : List AV := [int s.from_, int s.to_, bool s.st.on, int s.st.rk, int s.st.rv, int s.st.ra, int s.st.rz, covs s.st.covers, int s.yearly]
abbrev slsA (l : List Sl) : AV := .sl false 9 (l.map Sl.flat)
theorem Sl.len (s : Sl) : s.flat.length = 9 := rfl
theorem Sl.data (s : Sl) : s.flat.all AV.isData = true := by simp [Sl.flat]

def doSt (s : St) (c : Change) : St :=
  if c.kind = 1 then ⟨s.on, c.rk, c.rv, c.ra, c.rz, s.covers⟩ else if c.kind = 2 then ⟨s.on, s.rk, s.rv, s.ra, s.rz, c.covers⟩
  else if c.kind = 3 then ⟨false, s.rk, s.rv, s.ra, s.rz, s.covers⟩ else if c.kind = 4 then ⟨true, s.rk, s.rv, s.ra, s.rz, s.covers⟩ else s
def initSt (t : Terms) : St := ⟨true, t.kind, t.value, t.age, t.zone, t.covers⟩
/-- What holds on a day, by changes in their order. -/
def stAt (s : St) (L : List Change) (d : Int) : St := (L.filter fun c => decide (c.day ≤ d)).foldl doSt s
theorem stAt_same {s : St} {L : List Change} {p d : Int} (hpd : p ≤ d) (h : ∀ c, c ∈ L → ¬ (p < c.day ∧ c.day ≤ d)) : stAt s L d = stAt s L p := by
  have e : (L.filter fun c => decide (c.day ≤ d)) = L.filter fun c => decide (c.day ≤ p) := by
    refine List.filter_congr fun c hc => ?_
    have := h c hc
    rw [decide_eq_decide]
    omega
  rw [stAt, e, stAt]

/-- These are all of a span, on end, each of one state, unlike its neighbours'. -/
def Parted (f : Int → St) : Int → Int → List Sl → Prop
  | a, b, [] => a = b
  | a, b, s :: L => s.from_ = a ∧ a < s.to_ ∧ s.yearly = 0 ∧ (∀ d, a ≤ d → d < s.to_ → f d = s.st) ∧ Parted f s.to_ b L ∧ (L ≠ [] → f s.to_ ≠ s.st)
theorem parted_le {f : Int → St} : ∀ {L : List Sl} {a b : Int}, Parted f a b L → a ≤ b
  | [], _, _, h => Int.le_of_eq h
  | s :: L, _, _, h => by have := parted_le h.2.2.2.2.1; have := h.2.1; omega
theorem parted_one {f : Int → St} : ∀ {L M : List Sl} {a b : Int}, Parted f a b L → Parted f a b M → L = M
  | [], [], _, _, _, _ => rfl
  | [], s :: M, a, b, h, h2 => by
    have e : a = b := h
    have := parted_le h2.2.2.2.2.1
    have := h2.2.1
    omega
  | s :: L, [], a, b, h2, h => by
    have e : a = b := h
    have := parted_le h2.2.2.2.2.1
    have := h2.2.1
    omega
  | s :: L, u :: M, a, b, h, h2 => by
    obtain ⟨h1, h3, h4, h5, h6, h7⟩ := h
    obtain ⟨g1, g3, g4, g5, g6, g7⟩ := h2
    have e1 : s.st = u.st := by rw [← h5 a (Int.le_refl _) h3, ← g5 a (Int.le_refl _) g3]
    have hle := parted_le h6
    have gle := parted_le g6
    have e2 : s.to_ = u.to_ := by
      rcases Int.lt_trichotomy s.to_ u.to_ with hq | hq | hq
      · have hn : L ≠ [] := by rintro rfl; have : s.to_ = b := h6; omega
        exact absurd ((g5 s.to_ (by omega) hq).trans e1.symm) (h7 hn)
      · exact hq
      · have hn : M ≠ [] := by rintro rfl; have : u.to_ = b := g6; omega
        exact absurd ((h5 u.to_ (by omega) hq).trans e1) (g7 hn)
    have e3 : s = u := by
      obtain ⟨s1, s2, s3, s4⟩ := s
      obtain ⟨u1, u2, u3, u4⟩ := u
      simp only at h1 g1 h4 g4 e1 e2
      subst h1 g1 h4 g4 e1 e2
      rfl
    subst e3
    rw [parted_one h6 g6]

/-- The end of a slice. -/
def setTo (s : Sl) (d : Int) : Sl := ⟨s.from_, d, s.st, s.yearly⟩
def endS (out : List Sl) (from_ : Int) (st : St) (d : Int) : List Sl :=
  if from_ = d then out else match out.getLast? with
    | some q => if q.st = st then out.dropLast ++ [setTo q d] else out ++ [⟨from_, d, st, 0⟩]
    | none => out ++ [⟨from_, d, st, 0⟩]
theorem endS_nil {from_ : Int} {st : St} {d : Int} (h : from_ ≠ d) : endS [] from_ st d = [⟨from_, d, st, 0⟩] := by rw [endS, if_neg h]; rfl
theorem endS_snoc {out : List Sl} {q : Sl} {from_ : Int} {st : St} {d : Int} (h : from_ ≠ d) : endS (out ++ [q]) from_ st d = if q.st = st then out ++ [setTo q d] else out ++ [q] ++ [⟨from_, d, st, 0⟩] := by
  rw [endS, if_neg h, List.getLast?_append]
  simp
theorem snoc_cases {α : Type} (l : List α) : l = [] ∨ ∃ m x, l = m ++ [x] := by
  rcases List.eq_nil_or_concat l with h | ⟨m, x, h⟩
  · exact .inl h
  · exact .inr ⟨m, x, by rw [h, List.concat_eq_append]⟩
/-- One more slice behind. -/
theorem parted_snoc {f : Int → St} {m b : Int} {st : St} (hmb : m < b) (hst : ∀ d, m ≤ d → d < b → f d = st) : ∀ {L : List Sl} {a : Int}, Parted f a m L → (∀ q, L.getLast? = some q → q.st ≠ st) → Parted f a b (L ++ [⟨m, b, st, 0⟩])
  | [], a, h, _ => by
    have e : a = m := h
    subst e
    exact ⟨rfl, hmb, rfl, hst, rfl, fun h => absurd rfl h⟩
  | s :: L, a, h, hq => by
    obtain ⟨h1, h3, h4, h5, h6, h7⟩ := h
    refine ⟨h1, h3, h4, h5, parted_snoc hmb hst h6 fun q hL => hq q ?_, fun _ => ?_⟩
    · rcases L with _ | ⟨u, L⟩
      · simp at hL
      · rw [List.getLast?_cons_cons]; exact hL
    · rcases L with _ | ⟨u, L⟩
      · have e : s.to_ = m := h6
        rw [e, hst m (Int.le_refl _) hmb]
        exact (hq s rfl).symm
      · exact h7 (by simp)
/-- The last slice goes on. -/
theorem parted_more {f : Int → St} {m b : Int} {q : Sl} (hmb : m < b) (hst : ∀ d, m ≤ d → d < b → f d = q.st) : ∀ {L : List Sl} {a : Int}, Parted f a m (L ++ [q]) → Parted f a b (L ++ [setTo q b])
  | [], a, h => by
    obtain ⟨h1, h3, h4, h5, h6, -⟩ := h
    have e : q.to_ = m := h6
    refine ⟨h1, by show a < b; omega, h4, fun d hd1 hd2 => ?_, rfl, fun h => absurd rfl h⟩
    by_cases hd : d < m
    · exact h5 d hd1 (by omega)
    · exact hst d (by omega) hd2
  | s :: L, a, h => by
    obtain ⟨h1, h3, h4, h5, h6, h7⟩ := h
    exact ⟨h1, h3, h4, h5, parted_more hmb hst h6, fun _ => h7 (by simp)⟩
theorem parted_end {f : Int → St} {m b : Int} {st : St} (hmb : m ≤ b) (hst : ∀ d, m ≤ d → d < b → f d = st) {L : List Sl} {a : Int} (h : Parted f a m L) : Parted f a b (endS L m st b) := by
  by_cases e : m = b
  · rw [endS, if_pos e]; subst e; exact h
  · rcases snoc_cases L with rfl | ⟨M, q, rfl⟩
    · rw [endS_nil e]
      exact parted_snoc (L := []) (by omega) hst h (by simp)
    · rw [endS_snoc e]
      split
      · rename_i hq
        exact parted_more (by omega) (by rw [hq]; exact hst) h
      · rename_i hq
        exact parted_snoc (by omega) hst h (by intro u hu; rw [List.getLast?_append] at hu; simp at hu; subst hu; exact hq)

/-- The program's way: change by change. -/
def cutG (out : List Sl) (from_ : Int) (st : St) : List Change → Int → List Sl
  | [], t => endS out from_ st t
  | c :: l, t => cutG (endS out from_ st c.day) c.day (doSt st c) l t
theorem cutG_ok {s : St} {a t : Int} : ∀ {l P : List Change} {out : List Sl} {from_ : Int}, (P ++ l).Pairwise (fun c d => c.day ≤ d.day) → (∀ c, c ∈ P → c.day ≤ from_) → (∀ c, c ∈ l → from_ ≤ c.day ∧ c.day ≤ t) → from_ ≤ t →
    Parted (stAt s (P ++ l)) a from_ out → Parted (stAt s (P ++ l)) a t (cutG out from_ (P.foldl doSt s) l t)
  | [], P, out, from_, hs, hP, hl, hft, h => by
    refine parted_end hft (fun d hd _ => ?_) h
    rw [stAt, List.append_nil, List.filter_eq_self.2 fun c hc => by have := hP c hc; simp; omega]
  | c :: l, P, out, from_, hs, hP, hl, hft, h => by
    have hc := hl c (by simp)
    have e : P ++ c :: l = (P ++ [c]) ++ l := by simp
    have e2 : (P ++ [c]).foldl doSt s = doSt (P.foldl doSt s) c := by simp
    have hcl : ∀ x, x ∈ l → c.day ≤ x.day := (List.pairwise_cons.1 (List.pairwise_append.1 hs).2.1).1
    rw [cutG, ← e2, e]
    rw [e] at hs
    refine cutG_ok hs (fun x hx => ?_) (fun x hx => ⟨hcl x hx, (hl x (by simp [hx])).2⟩) hc.2 ?_
    · rcases List.mem_append.1 hx with hx | hx
      · have := hP x hx; omega
      · simp at hx; subst hx; exact Int.le_refl _
    · rw [← e]
      refine parted_end hc.1 (fun d hd hd2 => ?_) h
      have e3 : (P ++ c :: l).filter (fun c => decide (c.day ≤ d)) = P := by
        rw [List.filter_append, List.filter_eq_self.2 fun x hx => by have := hP x hx; simp; omega, List.filter_eq_nil_iff.2, List.append_nil]
        intro x hx
        rcases List.mem_cons.1 hx with rfl | hx
        · simp; omega
        · have := hcl x hx; simp; omega
      rw [stAt, e3]

/-- The reference's way: day by day. -/
def refG (f : Int → St) (out : List Sl) (from_ : Int) (now : St) : List Int → Int → List Sl
  | [], t => out ++ [⟨from_, t, now, 0⟩]
  | d :: l, t => if now = f d then refG f out from_ now l t else refG f (out ++ [⟨from_, d, now, 0⟩]) d (f d) l t
theorem refG_ok {f : Int → St} {a t : Int} : ∀ {l : List Int} {out : List Sl} {from_ p : Int}, from_ ≤ p → p < t → l.Pairwise (· ≤ ·) → (∀ x, x ∈ l → p ≤ x ∧ x < t) → (∀ x y, p ≤ x → x ≤ y → (∀ z, z ∈ l → ¬ (x < z ∧ z ≤ y)) → f y = f x) →
    (∀ d, from_ ≤ d → d ≤ p → f d = f p) → (∀ q, out.getLast? = some q → q.st ≠ f p) → Parted f a from_ out → Parted f a t (refG f out from_ (f p) l t)
  | [], out, from_, p, h1, h2, hs, hl, hc, hf, hq, h => by
    refine parted_snoc (by omega) (fun d hd hd2 => ?_) h hq
    by_cases hdp : d ≤ p
    · exact hf d hd hdp
    · exact hc p d (Int.le_refl _) (by omega) (by simp)
  | d :: l, out, from_, p, h1, h2, hs, hl, hc, hf, hq, h => by
    have hd := hl d (by simp)
    have hdl := (List.pairwise_cons.1 hs).1
    have hmid : ∀ x, p ≤ x → x < d → f x = f p := fun x hx hx2 => hc p x (Int.le_refl _) hx fun z hz => by
      rcases List.mem_cons.1 hz with rfl | hz
      · omega
      · have := hdl z hz; omega
    have hc' : ∀ x y, d ≤ x → x ≤ y → (∀ z, z ∈ l → ¬ (x < z ∧ z ≤ y)) → f y = f x := fun x y hx hxy hz => hc x y (by omega) hxy fun z hz2 => by
      rcases List.mem_cons.1 hz2 with rfl | hz2
      · omega
      · exact hz z hz2
    have hl' : ∀ x, x ∈ l → d ≤ x ∧ x < t := fun x hx => ⟨hdl x hx, (hl x (by simp [hx])).2⟩
    rw [refG]
    split
    · rename_i e
      rw [e]
      refine refG_ok (by omega) hd.2 (List.pairwise_cons.1 hs).2 hl' hc' (fun x hx hx2 => ?_) (by rw [← e]; exact hq) h
      by_cases hxp : x ≤ p
      · rw [hf x hx hxp, e]
      · by_cases hxd : x < d
        · rw [hmid x (by omega) hxd, e]
        · rw [show x = d by omega]
    · rename_i e
      have hpd : p ≠ d := by rintro rfl; exact e rfl
      refine refG_ok (Int.le_refl _) hd.2 (List.pairwise_cons.1 hs).2 hl' hc' (fun x hx hx2 => by rw [show x = d by omega]) (fun q hq2 => ?_) ?_
      · rw [List.getLast?_append] at hq2; simp at hq2; subst hq2; exact e
      · refine parted_snoc (by omega) (fun x hx hx2 => ?_) h hq
        by_cases hxp : x ≤ p
        · exact hf x hx hxp
        · exact hmid x (by omega) hx2

/-- Both ways are one. -/
theorem cut_ref {s : St} {a t : Int} {L : List Change} (hat : a < t) (hs : L.Pairwise fun c d => c.day ≤ d.day) (hl : ∀ c, c ∈ L → a ≤ c.day ∧ c.day < t) :
    cutG [] a s L t = refG (stAt s L) [] a (stAt s L a) (L.map Change.day) t := by
  have h1 := cutG_ok (s := s) (a := a) (t := t) (l := L) (P := []) (out := []) (from_ := a) hs (by simp) (fun c hc => ⟨(hl c hc).1, Int.le_of_lt (hl c hc).2⟩) (Int.le_of_lt hat) rfl
  have h2 := refG_ok (f := stAt s L) (a := a) (t := t) (l := L.map Change.day) (out := []) (from_ := a) (p := a) (Int.le_refl _) hat (List.pairwise_map.2 hs) (fun x hx => by
      obtain ⟨c, hc, rfl⟩ := List.mem_map.1 hx; exact hl c hc) (fun x y hx hxy hz => stAt_same hxy fun c hc => hz c.day (List.mem_map.2 ⟨c, hc, rfl⟩)) (fun d hd hd2 => by rw [show d = a by omega]) (by simp) rfl
  exact parted_one h1 h2
theorem cut_parted {s : St} {a t : Int} {L : List Change} (hat : a < t) (hs : L.Pairwise fun c d => c.day ≤ d.day) (hl : ∀ c, c ∈ L → a ≤ c.day ∧ c.day < t) : Parted (stAt s L) a t (cutG [] a s L t) :=
  cutG_ok (s := s) (a := a) (t := t) (l := L) (P := []) (out := []) (from_ := a) hs (by simp) (fun c hc => ⟨(hl c hc).1, Int.le_of_lt (hl c hc).2⟩) (Int.le_of_lt hat) rfl
end Go.Proofs.YtkonljmmdifnaaaGreat.V
set_option linter.unusedSimpArgs false
set_option linter.unusedVariables false
namespace Go.Proofs.YtkonljmmdifnaaaGreat.V
open Go.RowKit
set_option maxRecDepth 100000

theorem isNaN_f (a : Int) : Fun Tryz.prog 75 [int a] (bool false) := by
  refine fun_W mixed Tryz.func75 rfl (Nat.le_of_ble_eq_true rfl) (by kernel_rfl) fun cx hN hR hF hL => ?_; apply args_k; (case hA => (simp only [go_sem, ↓reduceIte]; rfl))
  (try ((try (revert K;refine bK ?_));refine' run trivial ?_;(repeat' first|exact True.intro|refine Lv.mk ?_ ?_|(refine oK ?_;intro K hK)|intro hq);all_goals refine Lf.mk ?_))

theorem less_f (a b : Int) : Fun Tryz.prog 141 [int a, int b] (bool (decide (a < b))) := by
  refine fun_W mixed Tryz.func141 rfl (Nat.le_of_ble_eq_true rfl) (by kernel_rfl) fun cx hN hR hF hL => ?_; apply args_k; (case hA => (simp only [go_sem, ↓reduceIte]; rfl))
  (try ((try (revert K;refine bK ?_));refine' run trivial ?_;(repeat' first|exact True.intro|refine Lv.mk ?_ ?_|(refine oK ?_;intro K hK)|intro hq);all_goals refine Lf.mk ?_))
  (refine callW cl75 (isNaN_f _) (by simp) ?_)
  (try ((try (revert K;refine bK ?_));refine' run trivial ?_;(repeat' first|exact True.intro|refine Lv.mk ?_ ?_|(refine oK ?_;intro K hK)|intro hq);all_goals refine Lf.mk ?_))

def spanRight (a b : Int) : Bool := decide (1 ≤ a) && decide (a ≤ b) && decide (b ≤ 292195)

theorem spanRight_f (a b : Int) : Fun Tryz.prog 70 [.agg [int a, int b]] (bool (spanRight a b)) := by
  refine fun_W mixed Tryz.func70 rfl (Nat.le_of_ble_eq_true rfl) (by kernel_rfl) fun cx hN hR hF hL => ?_; apply args_k; (case hA => (simp only [go_sem, ↓reduceIte]; rfl))
  (try ((try (revert K;refine bK ?_));refine' run trivial ?_;(repeat' first|exact True.intro|refine Lv.mk ?_ ?_|(refine oK ?_;intro K hK)|intro hq);all_goals refine Lf.mk ?_))
  rfl

/-- The span that counts. -/
def keptFrom (a b : Int) : Int := if spanRight a b && !decide (a = b) then a else 0
def keptTo (a b : Int) : Int := if spanRight a b && !decide (a = b) then b else 0

theorem kept_f (a b : Int) : Fun Tryz.prog 39 [.agg [int a, int b]] (.agg [int (keptFrom a b), int (keptTo a b)]) := by
  refine fun_W mixed Tryz.func39 rfl (Nat.le_of_ble_eq_true rfl) (by kernel_rfl) fun cx hN hR hF hL => ?_; apply args_k; (case hA => (simp only [go_sem, ↓reduceIte]; rfl))
  (try ((try (revert K;refine bK ?_));refine' run trivial ?_;(repeat' first|exact True.intro|refine Lv.mk ?_ ?_|(refine oK ?_;intro K hK)|intro hq);all_goals refine Lf.mk ?_))
  (refine callW cl70 (spanRight_f _ _) (by simp) ?_)
  (try ((try (revert K;refine bK ?_));refine' run trivial ?_;(repeat' first|exact True.intro|refine Lv.mk ?_ ?_|(refine oK ?_;intro K hK)|intro hq);all_goals refine Lf.mk ?_))
  · simp [keptFrom, keptTo] at hq ⊢; grind
  · simp [keptFrom, keptTo] at hq ⊢; grind

theorem kept_bounds (a b : Int) : 0 ≤ keptFrom a b ∧ keptFrom a b ≤ keptTo a b ∧ keptTo a b ≤ 292195 := by
  unfold keptFrom keptTo
  split
  · rename_i h
    simp [spanRight] at h
    omega
  · omega

theorem wrap_id {n : Int} (h1 : -9223372036854775808 ≤ n) (h2 : n ≤ 9223372036854775807) : IntKind.i64.wrap n = n := by
  unfold IntKind.wrap
  simp [IntKind.bits, IntKind.signed]
  omega

def spanMany (a b : Int) : Int := keptTo a b - keptFrom a b

theorem many_f (a b : Int) : Fun Tryz.prog 21 [.agg [int a, int b]] (int (spanMany a b)) := by
  refine fun_W mixed Tryz.func21 rfl (Nat.le_of_ble_eq_true rfl) (by kernel_rfl) fun cx hN hR hF hL => ?_; apply args_k; (case hA => (simp only [go_sem, ↓reduceIte]; rfl))
  (try ((try (revert K;refine bK ?_));refine' run trivial ?_;(repeat' first|exact True.intro|refine Lv.mk ?_ ?_|(refine oK ?_;intro K hK)|intro hq);all_goals refine Lf.mk ?_))
  (refine callW cl39 (kept_f _ _) (by simp) ?_)
  (try ((try (revert K;refine bK ?_));refine' run trivial ?_;(repeat' first|exact True.intro|refine Lv.mk ?_ ?_|(refine oK ?_;intro K hK)|intro hq);all_goals refine Lf.mk ?_))
  have := kept_bounds a b
  rw [wrap_id (by omega) (by omega)]
  rfl

def spanIn (a b d : Int) : Bool := decide (keptFrom a b ≤ d) && decide (d < keptTo a b)

theorem in_f (a b d : Int) : Fun Tryz.prog 18 [.agg [int a, int b], int d] (bool (spanIn a b d)) := by
  refine fun_W mixed Tryz.func18 rfl (Nat.le_of_ble_eq_true rfl) (by kernel_rfl) fun cx hN hR hF hL => ?_; apply args_k; (case hA => (simp only [go_sem, ↓reduceIte]; rfl))
  (try ((try (revert K;refine bK ?_));refine' run trivial ?_;(repeat' first|exact True.intro|refine Lv.mk ?_ ?_|(refine oK ?_;intro K hK)|intro hq);all_goals refine Lf.mk ?_))
  (refine callW cl39 (kept_f _ _) (by simp) ?_)
  (try ((try (revert K;refine bK ?_));refine' run trivial ?_;(repeat' first|exact True.intro|refine Lv.mk ?_ ?_|(refine oK ?_;intro K hK)|intro hq);all_goals refine Lf.mk ?_))
  rfl

def rises : List Int → Bool
  | a :: b :: l => decide (a ≤ b) && rises (b :: l)
  | _ => true

theorem rises_drop {l : List Int} {i : Nat} (h : i + 1 < l.length) : rises (l.drop i) = (decide (l[i] ≤ l[i + 1]) && rises (l.drop (i + 1))) := by
  rw [List.drop_eq_getElem_cons (show i < l.length by omega), List.drop_eq_getElem_cons h]
  simp [rises]

theorem rises_of_drop {l : List Int} : ∀ (i : Nat), rises l = true → rises (l.drop i) = true
  | 0, h => h
  | i + 1, h => by
    have := rises_of_drop i h
    by_cases hi : i + 1 < l.length
    · rw [rises_drop hi, Bool.and_eq_true] at this; exact this.2
    · rw [List.drop_eq_nil_of_le (by omega)]; rfl

theorem isSorted_f (l : List Int) : Fun Tryz.prog 153 [ints l] (bool (rises l)) := by
  refine fun_W mixed Tryz.func153 rfl (Nat.le_of_ble_eq_true rfl) (by kernel_rfl) fun cx hN hR hF hL => ?_; apply args_k; (case hA => (simp only [go_sem, ↓reduceIte]; rfl))
  simp at hL
  have hl := hL.1
  simp [maxLen] at hl
  (try ((try (revert K;refine bK ?_));refine' run trivial ?_;(repeat' first|exact True.intro|refine Lv.mk ?_ ?_|(refine oK ?_;intro K hK)|intro hq);all_goals refine Lf.mk ?_))
  refine loopW mixed (σ := {i : Nat // i ≤ l.length ∧ rises (l.drop (i - 1)) = true}) (fun s => ⟨[(3, int ((s.1 : Int) - 1)), (2, bool false), (0, ints l)], [], 2000⟩) (fun s => s.1) id ⟨l.length, by omega, ?_⟩ (by rw [hN]; kernel_rfl) ?_ ?_
  · by_cases h : l = []
    · subst h; rfl
    · have h1 : l.length - 1 + 1 = l.length := by have := List.length_pos_iff.2 h; omega
      rw [List.drop_eq_getElem_cons (by omega), List.drop_eq_nil_of_le (by omega)]
      rfl
  · have hw : IntKind.i64.wrap ((l.length : Int) - 1) = l.length - 1 := wrap_id (by omega) (by omega)
    simp only [go_sem, ↓reduceIte, hF, hw]
  · rintro ⟨i, h1, h2⟩
    rcases i with _ | _ | i
    · (try ((try (revert K;refine bK ?_));refine' run trivial ?_;(repeat' first|exact True.intro|refine Lv.mk ?_ ?_|(refine oK ?_;intro K hK)|intro hq);all_goals refine Lf.mk ?_))
      exact h2.symm
    · (try ((try (revert K;refine bK ?_));refine' run trivial ?_;(repeat' first|exact True.intro|refine Lv.mk ?_ ?_|(refine oK ?_;intro K hK)|intro hq);all_goals refine Lf.mk ?_))
      exact h2.symm
    · have ez : ((i + 1 + 1 : Nat) : Int) - 1 = ((i + 1 : Nat) : Int) := by omega
      have ew : IntKind.i64.wrap (((i + 1 : Nat) : Int) - 1) = (i : Int) := by rw [wrap_id] <;> omega
      have e1 : l[i + 1]? = some l[i + 1] := List.getElem?_eq_getElem (by omega)
      have e2 : l[i]? = some l[i] := List.getElem?_eq_getElem (by omega)
      (try ((try (revert K;refine bK ?_));refine' run (I ez (I ew (I e1 e2))) ?_;(repeat' first|exact True.intro|refine Lv.mk ?_ ?_|(refine oK ?_;intro K hK)|intro hq);all_goals refine Lf.mk ?_))
      (refine callW cl141 (less_f _ _) (by simp) ?_)
      (try ((try (revert K;refine bK ?_));refine' run (I ez (I ew (I e1 e2))) ?_;(repeat' first|exact True.intro|refine Lv.mk ?_ ?_|(refine oK ?_;intro K hK)|intro hq);all_goals refine Lf.mk ?_))
      · cases hr : rises l with
        | false => rfl
        | true =>
          have h3 := rises_of_drop i hr
          rw [rises_drop (show i + 1 < l.length by omega)] at h3
          simp at h3
          omega
      · refine ⟨⟨i + 1, by omega, ?_⟩, id, ?_, Nat.lt_succ_self _⟩
        · have h3 := rises_drop (show i + 1 < l.length by omega)
          simp at h2 h3 ⊢
          rw [h3, h2]
          simp [hq]
        · have ev : ((i + 1 : Nat) : Int) - 1 = (i : Int) := by omega
          simp only [go_sem, ↓reduceIte, hF, ev]
end Go.Proofs.YtkonljmmdifnaaaGreat.V
set_option linter.unusedSimpArgs false
set_option linter.unusedVariables false
namespace Go.Proofs.YtkonljmmdifnaaaGreat.V
open Go.RowKit
set_option maxRecDepth 100000

def riskRight (k v a z : Int) : Bool := (decide (0 ≤ k) && decide (k < 4)) && (decide (1 ≤ v) && decide (v ≤ 1000000000000000)) && decide (0 ≤ a) && decide (a ≤ 200) && decide (0 ≤ z) && decide (z < 100)

theorem riskRight_f (k v a z : Int) : Fun Tryz.prog 111 [.agg [int k, int v, int a, int z]] (bool (riskRight k v a z)) := by
  refine fun_W mixed Tryz.func111 rfl (Nat.le_of_ble_eq_true rfl) (by kernel_rfl) fun cx hN hR hF hL => ?_; apply args_k; (case hA => (simp only [go_sem, ↓reduceIte]; rfl))
  (try ((try (revert K;refine bK ?_));refine' run trivial ?_;(repeat' first|exact True.intro|refine Lv.mk ?_ ?_|(refine oK ?_;intro K hK)|intro hq);all_goals refine Lf.mk ?_))
  rfl

def coverRight (p l a d s : Int) : Bool := (decide (0 ≤ p) && decide (p < 8)) && (decide (1 ≤ s) && decide (s ≤ 10000)) && rises [0, d, IntKind.i64.wrap (l - 1), IntKind.i64.wrap (a - 1), 999999999999999] && decide (d < l)
def Cover.right (c : Cover) : Bool := coverRight c.peril c.limit c.agg c.ded c.share

theorem coverRight_f (c : Cover) : Fun Tryz.prog 124 [.agg c.flat] (bool c.right) := by
  refine fun_W mixed Tryz.func124 rfl (Nat.le_of_ble_eq_true rfl) (by kernel_rfl) fun cx hN hR hF hL => ?_; apply args_k; (case hA => (simp only [go_sem, ↓reduceIte]; rfl))
  (try ((try (revert K;refine bK ?_));refine' run trivial ?_;(repeat' first|exact True.intro|refine Lv.mk ?_ ?_|(refine oK ?_;intro K hK)|intro hq);all_goals refine Lf.mk ?_))
  (apply callL' [3104] cl153 (isSorted_f [0, c.ded, IntKind.i64.wrap (c.limit - 1), IntKind.i64.wrap (c.agg - 1), 999999999999999]); (case hp | hl => (simp only [go_sem, ↓reduceIte]; try rfl)); (case hx => (simp [AV.flat0])); (try (case hfz => (first | (simp only [go_sem]; done) | (simp [go_sem, fzo]; done)))))
  all_goals (try ((try (revert K;refine bK ?_));refine' run trivial ?_;(repeat' first|exact True.intro|refine Lv.mk ?_ ?_|(refine oK ?_;intro K hK)|intro hq);all_goals refine Lf.mk ?_))
  · simp only [Cover.right, coverRight, hq, Bool.true_and]
  · simp only [Cover.right, coverRight, hq, Bool.false_and]

def coversFrom (last : Int) : List Cover → Bool
  | [] => true
  | c :: l => !(decide (c.peril ≤ last) || !c.right) && coversFrom c.peril l
def lastPeril (last : Int) : List Cover → Int
  | [] => last
  | c :: l => lastPeril c.peril l
theorem last_app (a : Int) (l : List Cover) (c : Cover) : lastPeril a (l ++ [c]) = c.peril := by
  induction l generalizing a with
  | nil => rfl
  | cons d l ih => exact ih d.peril
theorem last_take {a : Int} {l : List Cover} {i : Nat} (h : i < l.length) : lastPeril a (l.take (i + 1)) = l[i].peril := by
  rw [List.take_succ_eq_append_getElem h, last_app]
def coversRight (l : List Cover) : Bool := coversFrom (-1) l && (decide (1 ≤ (l.length : Int)) && decide ((l.length : Int) ≤ 8))

theorem covers_f (l : List Cover) : Fun Tryz.prog 113 [covs l] (bool (coversRight l)) := by
  refine fun_W mixed Tryz.func113 rfl (Nat.le_of_ble_eq_true rfl) (by kernel_rfl) fun cx hN hR hF hL => ?_; apply args_k; (case hA => (simp only [go_sem, ↓reduceIte]; rfl))
  simp at hL
  have hl := hL.1
  simp [maxLen] at hl
  (try ((try (revert K;refine bK ?_));refine' run trivial ?_;(repeat' first|exact True.intro|refine Lv.mk ?_ ?_|(refine oK ?_;intro K hK)|intro hq);all_goals refine Lf.mk ?_))
  refine loopW mixed (σ := {i : Nat // i ≤ l.length ∧ coversFrom (-1) l = coversFrom (lastPeril (-1) (l.take i)) (l.drop i)}) (fun s => ⟨[(8, int s.1), (7, int l.length), (6, covs l), (3, int (lastPeril (-1) (l.take s.1))), (2, bool false), (0, covs l)], [], 3000⟩) (fun s => l.length - s.1) id ⟨0, by omega, rfl⟩ (by rw [hN]; kernel_rfl) ?_ ?_
  · simp only [go_sem, ↓reduceIte, hF]
    simp [lastPeril]
  · rintro ⟨i, h1, h2⟩
    by_cases hi : i < l.length
    · have e1 : l[i]? = some l[i] := List.getElem?_eq_getElem hi
      have e2 : IntKind.i64.wrap ((i : Int) + 1) = ((i + 1 : Nat) : Int) := by rw [wrap_id] <;> omega
      (try ((try (revert K;refine bK ?_));refine' run (I e1 e2) ?_;(repeat' first|exact True.intro|refine Lv.mk ?_ ?_|(refine oK ?_;intro K hK)|intro hq);all_goals refine Lf.mk ?_))
      (refine callW cl124 (coverRight_f _) (by simp) ?_)
      (try ((try (revert K;refine bK ?_));refine' run (I e1 e2) ?_;(repeat' first|exact True.intro|refine Lv.mk ?_ ?_|(refine oK ?_;intro K hK)|intro hq);all_goals refine Lf.mk ?_))
      · rw [coversRight, h2, List.drop_eq_getElem_cons hi, coversFrom]
        rcases hq with h | h <;> simp [h]
      · refine ⟨⟨i + 1, by omega, ?_⟩, id, ?_, by show l.length - (i + 1) < l.length - i; omega⟩
        · rw [h2, List.drop_eq_getElem_cons hi, coversFrom, last_take hi]
          simp [hq]
        · simp only [go_sem, ↓reduceIte, hF, last_take hi]
    · (try ((try (revert K;refine bK ?_));refine' run trivial ?_;(repeat' first|exact True.intro|refine Lv.mk ?_ ?_|(refine oK ?_;intro K hK)|intro hq);all_goals refine Lf.mk ?_))
      rw [List.drop_eq_nil_of_le (by omega)] at h2
      simp [coversRight, h2, coversFrom]
end Go.Proofs.YtkonljmmdifnaaaGreat.V
set_option linter.unusedSimpArgs false
set_option linter.unusedVariables false
namespace Go.Proofs.YtkonljmmdifnaaaGreat.V
open Go.RowKit
set_option maxRecDepth 100000

theorem ref08_f (c : Cover) (ho : c.ok) : Fun Tryz.prog 132 [.agg c.flat] (bool c.right) := by
  have key : c.right = (decide (0 ≤ c.peril) && decide (c.peril < 8) && (decide (1 ≤ c.share) && decide (c.share ≤ 10000)) && decide (0 ≤ c.ded) && decide (c.ded < c.limit) && decide (c.limit ≤ c.agg) && decide (c.agg ≤ 1000000000000000)) := by
    obtain ⟨-, ⟨h1, h2⟩, ⟨h3, h4⟩, -, -⟩ := ho
    unfold Cover.right coverRight
    rw [Bool.eq_iff_iff]
    simp only [rises, Bool.and_eq_true, decide_eq_true_eq, Bool.and_true]
    by_cases e1 : c.limit = -9223372036854775808
    · rw [e1]
      omega
    · by_cases e2 : c.agg = -9223372036854775808
      · rw [e2, show IntKind.i64.wrap (-9223372036854775808 - 1) = 9223372036854775807 from rfl]
        omega
      · rw [wrap_id (by omega) (by omega), wrap_id (by omega) (by omega)]
        omega
  rw [key]
  refine fun_W mixed Tryz.func132 rfl (Nat.le_of_ble_eq_true rfl) (by kernel_rfl) fun cx hN hR hF hL => ?_; apply args_k; (case hA => (simp only [go_sem, ↓reduceIte]; rfl))
  (try ((try (revert K;refine bK ?_));refine' run trivial ?_;(repeat' first|exact True.intro|refine Lv.mk ?_ ?_|(refine oK ?_;intro K hK)|intro hq);all_goals refine Lf.mk ?_))
  all_goals rw [Bool.eq_iff_iff]
  all_goals simp at hq ⊢
  all_goals omega

theorem ref06_f (k v a z : Int) : Fun Tryz.prog 128 [.agg [int k, int v, int a, int z]] (bool (riskRight k v a z)) := by
  refine fun_W mixed Tryz.func128 rfl (Nat.le_of_ble_eq_true rfl) (by kernel_rfl) fun cx hN hR hF hL => ?_; apply args_k; (case hA => (simp only [go_sem, ↓reduceIte]; rfl))
  (try ((try (revert K;refine bK ?_));refine' run trivial ?_;(repeat' first|exact True.intro|refine Lv.mk ?_ ?_|(refine oK ?_;intro K hK)|intro hq);all_goals refine Lf.mk ?_))
  all_goals rw [Bool.eq_iff_iff]
  all_goals simp [riskRight] at hq ⊢
  all_goals omega

def full (a b : Int) : Bool := decide (1 ≤ a) && decide (a < b) && decide (b ≤ 292195)

theorem full_f (a b : Int) : Fun Tryz.prog 127 [.agg [int a, int b]] (bool (full a b)) := by
  refine fun_W mixed Tryz.func127 rfl (Nat.le_of_ble_eq_true rfl) (by kernel_rfl) fun cx hN hR hF hL => ?_; apply args_k; (case hA => (simp only [go_sem, ↓reduceIte]; rfl))
  (try ((try (revert K;refine bK ?_));refine' run trivial ?_;(repeat' first|exact True.intro|refine Lv.mk ?_ ?_|(refine oK ?_;intro K hK)|intro hq);all_goals refine Lf.mk ?_))
  rfl

theorem ref03Right_f (a b : Int) : Fun Tryz.prog 68 [.agg [int a, int b]] (bool (spanRight a b)) := by
  refine fun_W mixed Tryz.func68 rfl (Nat.le_of_ble_eq_true rfl) (by kernel_rfl) fun cx hN hR hF hL => ?_; apply args_k; (case hA => (simp only [go_sem, ↓reduceIte]; rfl))
  (try ((try (revert K;refine bK ?_));refine' run trivial ?_;(repeat' first|exact True.intro|refine Lv.mk ?_ ?_|(refine oK ?_;intro K hK)|intro hq);all_goals refine Lf.mk ?_))
  rfl

theorem ref03In_f (a b d : Int) : Fun Tryz.prog 71 [.agg [int a, int b], int d] (bool (spanIn a b d)) := by
  refine fun_W mixed Tryz.func71 rfl (Nat.le_of_ble_eq_true rfl) (by kernel_rfl) fun cx hN hR hF hL => ?_; apply args_k; (case hA => (simp only [go_sem, ↓reduceIte]; rfl))
  (try ((try (revert K;refine bK ?_));refine' run trivial ?_;(repeat' first|exact True.intro|refine Lv.mk ?_ ?_|(refine oK ?_;intro K hK)|intro hq);all_goals refine Lf.mk ?_))
  (refine callW cl68 (ref03Right_f _ _) (by simp) ?_)
  (try ((try (revert K;refine bK ?_));refine' run trivial ?_;(repeat' first|exact True.intro|refine Lv.mk ?_ ?_|(refine oK ?_;intro K hK)|intro hq);all_goals refine Lf.mk ?_))
  rw [Bool.eq_iff_iff]
  unfold spanIn keptFrom keptTo
  cases h : spanRight a b
  · simp; try omega
  · by_cases e : a = b
    · simp [e]; try omega
    · simp [e]

def coversOk (l : List Cover) : Prop := ∀ c, c ∈ l → c.ok

end Go.Proofs.YtkonljmmdifnaaaGreat.V
set_option linter.unusedSimpArgs false
set_option linter.unusedVariables false
namespace Go.Proofs.YtkonljmmdifnaaaGreat.V
open Go.RowKit
set_option maxRecDepth 100000
attribute [local go_sem] Option.toList_some Option.toList_none

theorem alike_f (a b : List Cover) : Fun Tryz.prog 95 [covs a, covs b] (bool (decide (a = b))) := by
  refine fun_W mixed Tryz.func95 rfl (Nat.le_of_ble_eq_true rfl) (by kernel_rfl) fun cx hN hR hF hL => ?_; apply args_k; (case hA => (simp only [go_sem, ↓reduceIte]; rfl))
  have hl : a.length ≤ 9223372036854775807 := by
    have := hL
    simp [maxLen] at this
    omega
  by_cases hn : a.length = b.length
  · (try ((try (revert K;refine bK ?_));refine' run hn ?_;(repeat' first|exact True.intro|refine Lv.mk ?_ ?_|(refine oK ?_;intro K hK)|intro hq);all_goals refine Lf.mk ?_))
    refine loopW mixed (σ := {i : Nat // i ≤ a.length ∧ a.take i = b.take i}) (fun s => ⟨[(14, int s.1), (4, bool false), (12, covs a), (13, int a.length), (1, covs b)], [], 3000⟩) (fun s => a.length - s.1) id ⟨0, by omega, rfl⟩ (by rw [hN]; kernel_rfl) ?_ ?_
    · simp only [go_sem, ↓reduceIte, hF, hn]
      rfl
    · rintro ⟨i, h1, h2⟩
      by_cases hi : i < a.length
      · have e1 : a[i]? = some a[i] := List.getElem?_eq_getElem hi
        have hj : i < b.length := by omega
        have e3 : b[i]? = some b[i] := List.getElem?_eq_getElem hj
        have e2 : IntKind.i64.wrap ((i : Int) + 1) = ((i + 1 : Nat) : Int) := by rw [wrap_id] <;> omega
        (try ((try (revert K;refine bK ?_));refine' run (I e1 (I e2 e3)) ?_;(repeat' first|exact True.intro|refine Lv.mk ?_ ?_|(refine oK ?_;intro K hK)|intro hq);all_goals refine Lf.mk ?_))
        · rw [cover_flat_inj] at hq
          simp [ne_at hi hj hq]
        · rw [cover_flat_inj] at hq
          refine ⟨⟨i + 1, by omega, take_eq_snoc hi hj h2 hq⟩, id, ?_, by show a.length - (i + 1) < a.length - i; omega⟩
          simp only [go_sem, ↓reduceIte, hF]
      · (try ((try (revert K;refine bK ?_));refine' run trivial ?_;(repeat' first|exact True.intro|refine Lv.mk ?_ ?_|(refine oK ?_;intro K hK)|intro hq);all_goals refine Lf.mk ?_))
        simp [take_eq_all hn hi h2]
  · (try ((try (revert K;refine bK ?_));refine' run hn ?_;(repeat' first|exact True.intro|refine Lv.mk ?_ ?_|(refine oK ?_;intro K hK)|intro hq);all_goals refine Lf.mk ?_))
    have : ¬ a = b := fun e => hn (by rw [e])
    simp [this]
theorem rSame_f (a b : List Cover) : Fun Tryz.prog 92 [covs a, covs b] (bool (decide (a = b))) := by
  refine fun_W mixed Tryz.func92 rfl (Nat.le_of_ble_eq_true rfl) (by kernel_rfl) fun cx hN hR hF hL => ?_; apply args_k; (case hA => (simp only [go_sem, ↓reduceIte]; rfl))
  have hl : a.length ≤ 9223372036854775807 := by
    have := hL
    simp [maxLen] at this
    omega
  by_cases hn : a.length = b.length
  · (try ((try (revert K;refine bK ?_));refine' run hn ?_;(repeat' first|exact True.intro|refine Lv.mk ?_ ?_|(refine oK ?_;intro K hK)|intro hq);all_goals refine Lf.mk ?_))
    refine loopW mixed (σ := {i : Nat // i ≤ a.length ∧ a.take i = b.take i}) (fun s => ⟨[(5, int s.1), (4, bool false), (0, covs a), (1, covs b)], [], 3000⟩) (fun s => a.length - s.1) id ⟨0, by omega, rfl⟩ (by rw [hN]; kernel_rfl) ?_ ?_
    · simp only [go_sem, ↓reduceIte, hF]
      rfl
    · rintro ⟨i, h1, h2⟩
      by_cases hi : i < a.length
      · have e1 : a[i]? = some a[i] := List.getElem?_eq_getElem hi
        have hj : i < b.length := by omega
        have e3 : b[i]? = some b[i] := List.getElem?_eq_getElem hj
        have e2 : IntKind.i64.wrap ((i : Int) + 1) = ((i + 1 : Nat) : Int) := by rw [wrap_id] <;> omega
        (try ((try (revert K;refine bK ?_));refine' run (I e1 (I e2 e3)) ?_;(repeat' first|exact True.intro|refine Lv.mk ?_ ?_|(refine oK ?_;intro K hK)|intro hq);all_goals refine Lf.mk ?_))
        · rw [cover_flat_inj] at hq
          simp [ne_at hi hj hq]
        · rw [cover_flat_inj] at hq
          refine ⟨⟨i + 1, by omega, take_eq_snoc hi hj h2 hq⟩, id, ?_, by show a.length - (i + 1) < a.length - i; omega⟩
          simp only [go_sem, ↓reduceIte, hF]
      · (try ((try (revert K;refine bK ?_));refine' run trivial ?_;(repeat' first|exact True.intro|refine Lv.mk ?_ ?_|(refine oK ?_;intro K hK)|intro hq);all_goals refine Lf.mk ?_))
        simp [take_eq_all hn hi h2]
  · (try ((try (revert K;refine bK ?_));refine' run hn ?_;(repeat' first|exact True.intro|refine Lv.mk ?_ ?_|(refine oK ?_;intro K hK)|intro hq);all_goals refine Lf.mk ?_))
    have : ¬ a = b := fun e => hn (by rw [e])
    simp [this]
theorem holds_f (a b : Sl) : Fun Tryz.prog 64 [.agg a.flat, .agg b.flat] (bool (decide (a.st = b.st))) := by
  refine fun_W mixed Tryz.func64 rfl (Nat.le_of_ble_eq_true rfl) (by kernel_rfl) fun cx hN hR hF hL => ?_; apply args_k; (case hA => (simp only [go_sem, ↓reduceIte]; rfl))
  (repeat' first|((try (revert K;refine bK ?_));refine' run trivial ?_;(repeat' first|exact True.intro|refine Lv.mk ?_ ?_|(refine oK ?_;intro K hK)|intro hq);all_goals refine Lf.mk ?_)|refine callZ cl95 (alike_f _ _) ?_)
  · rcases a with ⟨_, _, ⟨_, _, _, _, _, _⟩, _⟩
    rcases b with ⟨_, _, ⟨_, _, _, _, _, _⟩, _⟩
    rw [Bool.eq_iff_iff]
    simp
    try grind
theorem like_f (a b : Sl) : Fun Tryz.prog 61 [.agg a.flat, .agg b.flat] (bool (decide (a.st = b.st))) := by
  refine fun_W mixed Tryz.func61 rfl (Nat.le_of_ble_eq_true rfl) (by kernel_rfl) fun cx hN hR hF hL => ?_; apply args_k; (case hA => (simp only [go_sem, ↓reduceIte]; rfl))
  (repeat' first|((try (revert K;refine bK ?_));refine' run trivial ?_;(repeat' first|exact True.intro|refine Lv.mk ?_ ?_|(refine oK ?_;intro K hK)|intro hq);all_goals refine Lf.mk ?_)|refine callZ cl92 (rSame_f _ _) ?_)
  · rcases a with ⟨_, _, ⟨_, _, _, _, _, _⟩, _⟩
    rcases b with ⟨_, _, ⟨_, _, _, _, _, _⟩, _⟩
    rw [Bool.eq_iff_iff]
    simp
    try grind
theorem slSame_f (a b : Sl) : Fun Tryz.prog 34 [.agg a.flat, .agg b.flat] (bool (decide (a = b))) := by
  refine fun_W mixed Tryz.func34 rfl (Nat.le_of_ble_eq_true rfl) (by kernel_rfl) fun cx hN hR hF hL => ?_; apply args_k; (case hA => (simp only [go_sem, ↓reduceIte]; rfl))
  (repeat' first|((try (revert K;refine bK ?_));refine' run trivial ?_;(repeat' first|exact True.intro|refine Lv.mk ?_ ?_|(refine oK ?_;intro K hK)|intro hq);all_goals refine Lf.mk ?_)|refine callZ cl64 (holds_f _ _) ?_)
  · rcases a with ⟨_, _, ⟨_, _, _, _, _, _⟩, _⟩
    rcases b with ⟨_, _, ⟨_, _, _, _, _, _⟩, _⟩
    rw [Bool.eq_iff_iff]
    simp
    try grind
theorem rSlSame_f (a b : Sl) : Fun Tryz.prog 30 [.agg a.flat, .agg b.flat] (bool (decide (a = b))) := by
  refine fun_W mixed Tryz.func30 rfl (Nat.le_of_ble_eq_true rfl) (by kernel_rfl) fun cx hN hR hF hL => ?_; apply args_k; (case hA => (simp only [go_sem, ↓reduceIte]; rfl))
  (repeat' first|((try (revert K;refine bK ?_));refine' run trivial ?_;(repeat' first|exact True.intro|refine Lv.mk ?_ ?_|(refine oK ?_;intro K hK)|intro hq);all_goals refine Lf.mk ?_)|refine callZ cl61 (like_f _ _) ?_)
  · rcases a with ⟨_, _, ⟨_, _, _, _, _, _⟩, _⟩
    rcases b with ⟨_, _, ⟨_, _, _, _, _, _⟩, _⟩
    rw [Bool.eq_iff_iff]
    simp
    try grind
/-- The slice of a day. -/
def slAt (l : List Sl) (d : Int) : Option Sl := l.find? fun s => spanIn s.from_ s.to_ d
def slO : Option Sl → AV
  | some s => .tup [.agg s.flat, bool true]
  | none => .tup [.agg [int 0, int 0, bool false, int 0, int 0, int 0, int 0, .v (.slice none 0 0), int 0], bool false]
attribute [local go_sem] slO
theorem slAt_no {l : List Sl} {i : Nat} {d : Int} (hi : i < l.length) (h : spanIn l[i].from_ l[i].to_ d = false) : slAt (l.drop i) d = slAt (l.drop (i + 1)) d := by
  rw [List.drop_eq_getElem_cons hi, slAt, List.find?_cons, h]; rfl
theorem slAt_yes {l : List Sl} {i : Nat} {d : Int} (hi : i < l.length) (h : spanIn l[i].from_ l[i].to_ d = true) : slAt (l.drop i) d = some l[i] := by
  rw [List.drop_eq_getElem_cons hi, slAt, List.find?_cons, h]
theorem slAt_f (l : List Sl) (f : Bool) (d : Int) (o : Option Sl) (ho : o = slAt l d) (hl : l.length ≤ 1000000) : Fun Tryz.prog 33 [.sl f 9 (l.map Sl.flat), int d] (slO o) := by
  refine fun_W mixed Tryz.func33 rfl (Nat.le_of_ble_eq_true rfl) (by kernel_rfl) fun cx hN hR hF hL => ?_; apply args_k; (case hA => (simp only [go_sem, ↓reduceIte]; rfl))
  (try ((try (revert K;refine bK ?_));refine' run trivial ?_;(repeat' first|exact True.intro|refine Lv.mk ?_ ?_|(refine oK ?_;intro K hK)|intro hq);all_goals refine Lf.mk ?_))
  refine loopW mixed (σ := {i : Nat // i ≤ l.length ∧ o = slAt (l.drop i) d}) (fun s => ⟨[(10, int s.1), (1, int d), (4, .ptr 0 0), (8, .sl f 9 (l.map Sl.flat)), (9, int l.length), (5, bool false)], [(0, some ⟨73, [int 0, int 0, bool false, int 0, int 0, int 0, int 0, .v (.slice none 0 0), int 0]⟩)], 3000⟩) (fun s => l.length - s.1) id ⟨0, by omega, ho⟩ (by rw [hN]; kernel_rfl) ?_ ?_
  · simp only [go_sem, ↓reduceIte, hF]
    all_goals rfl
  · rintro ⟨i, h1, h2⟩
    simp only at h1 h2 ⊢
    by_cases hi : i < l.length
    · have e1 : (l.map Sl.flat)[i]? = some (l[i].flat) := by rw [List.getElem?_map, List.getElem?_eq_getElem hi]; rfl
      have e2 : IntKind.i64.wrap ((i : Int) + 1) = ((i + 1 : Nat) : Int) := by rw [wrap_id] <;> omega
      have k := in_f l[i].from_ l[i].to_ d
      cases hb : spanIn l[i].from_ l[i].to_ d
      · rw [hb] at k
        rw [slAt_no hi hb] at h2
        generalize l[i] = s at *
        (repeat' first|((try (revert K;refine bK ?_));refine' run (I e1 e2) ?_;(repeat' first|exact True.intro|refine Lv.mk ?_ ?_|(refine oK ?_;intro K hK)|intro hq);all_goals refine Lf.mk ?_)|refine callZ cl18 (k) ?_)
        refine ⟨⟨i + 1, hi, h2⟩, id, ?_, by show l.length - (i + 1) < l.length - i; omega⟩
        simp only [go_sem, ↓reduceIte, hF]
      · rw [hb] at k
        rw [slAt_yes hi hb] at h2
        subst h2
        generalize l[i] = s at *
        (repeat' first|((try (revert K;refine bK ?_));refine' run (I e1 e2) ?_;(repeat' first|exact True.intro|refine Lv.mk ?_ ?_|(refine oK ?_;intro K hK)|intro hq);all_goals refine Lf.mk ?_)|refine callZ cl18 (k) ?_)
    · obtain rfl : i = l.length := by omega
      rw [List.drop_length] at h2
      obtain rfl : o = none := h2
      (try ((try (revert K;refine bK ?_));refine' run trivial ?_;(repeat' first|exact True.intro|refine Lv.mk ?_ ?_|(refine oK ?_;intro K hK)|intro hq);all_goals refine Lf.mk ?_))
theorem rSlAt_f (l : List Sl) (f : Bool) (d : Int) (o : Option Sl) (ho : o = slAt l d) (hl : l.length ≤ 1000000) : Fun Tryz.prog 40 [.sl f 9 (l.map Sl.flat), int d] (slO o) := by
  refine fun_W mixed Tryz.func40 rfl (Nat.le_of_ble_eq_true rfl) (by kernel_rfl) fun cx hN hR hF hL => ?_; apply args_k; (case hA => (simp only [go_sem, ↓reduceIte]; rfl))
  (try ((try (revert K;refine bK ?_));refine' run trivial ?_;(repeat' first|exact True.intro|refine Lv.mk ?_ ?_|(refine oK ?_;intro K hK)|intro hq);all_goals refine Lf.mk ?_))
  refine loopW mixed (σ := {i : Nat // i ≤ l.length ∧ o = slAt (l.drop i) d}) (fun s => ⟨[(6, int s.1), (1, int d), (4, .ptr 0 0), (0, .sl f 9 (l.map Sl.flat)), (5, bool false)], [(0, some ⟨73, [int 0, int 0, bool false, int 0, int 0, int 0, int 0, .v (.slice none 0 0), int 0]⟩)], 3000⟩) (fun s => l.length - s.1) id ⟨0, by omega, ho⟩ (by rw [hN]; kernel_rfl) ?_ ?_
  · simp only [go_sem, ↓reduceIte, hF]
    all_goals rfl
  · rintro ⟨i, h1, h2⟩
    simp only at h1 h2 ⊢
    by_cases hi : i < l.length
    · have e1 : (l.map Sl.flat)[i]? = some (l[i].flat) := by rw [List.getElem?_map, List.getElem?_eq_getElem hi]; rfl
      have e2 : IntKind.i64.wrap ((i : Int) + 1) = ((i + 1 : Nat) : Int) := by rw [wrap_id] <;> omega
      have k := ref03In_f l[i].from_ l[i].to_ d
      cases hb : spanIn l[i].from_ l[i].to_ d
      · rw [hb] at k
        rw [slAt_no hi hb] at h2
        generalize l[i] = s at *
        (repeat' first|((try (revert K;refine bK ?_));refine' run (I e1 e2) ?_;(repeat' first|exact True.intro|refine Lv.mk ?_ ?_|(refine oK ?_;intro K hK)|intro hq);all_goals refine Lf.mk ?_)|refine callZ cl71 (k) ?_)
        refine ⟨⟨i + 1, hi, h2⟩, id, ?_, by show l.length - (i + 1) < l.length - i; omega⟩
        simp only [go_sem, ↓reduceIte, hF]
      · rw [hb] at k
        rw [slAt_yes hi hb] at h2
        subst h2
        generalize l[i] = s at *
        (repeat' first|((try (revert K;refine bK ?_));refine' run (I e1 e2) ?_;(repeat' first|exact True.intro|refine Lv.mk ?_ ?_|(refine oK ?_;intro K hK)|intro hq);all_goals refine Lf.mk ?_)|refine callZ cl71 (k) ?_)
    · obtain rfl : i = l.length := by omega
      rw [List.drop_length] at h2
      obtain rfl : o = none := h2
      (try ((try (revert K;refine bK ?_));refine' run trivial ?_;(repeat' first|exact True.intro|refine Lv.mk ?_ ?_|(refine oK ?_;intro K hK)|intro hq);all_goals refine Lf.mk ?_))
end Go.Proofs.YtkonljmmdifnaaaGreat.V
