/- Operations on abstract states; regions in text order, and in every order that the edges allow. -/
import Derived.Test.YtjplhfmakghabaaV2
import Derived.Orders
import Derived.Still
set_option linter.unusedSimpArgs false
set_option linter.unusedVariables false
namespace Go.Proofs.Ytjplhfmakghabaa.V
open Go.RowKit

/-- What an operation does: it looks at these boxes; it yields this; these boxes turn (none: given up). -/
structure OpS where
  fp : List (Nat × Bx)
  x : AV
  tb : List (Nat × Option Bx)

def bput (box : Nat → Option Bx) : List (Nat × Option Bx) → Nat → Option Bx
  | [] => box
  | (b, r) :: l => fun i => if i = b then r else bput box l i

theorem bput_not {box : Nat → Option Bx} {b : Nat} : ∀ {tb : List (Nat × Option Bx)}, (∀ r, (b, r) ∉ tb) → bput box tb b = box b
  | [], _ => rfl
  | (c, r) :: l, h => by
    have h1 : b ≠ c := by rintro rfl; exact h r (by simp)
    simp only [bput, h1, if_false]
    exact bput_not fun r hr => h r (by simp [hr])

theorem bput_congr {box box' : Nat → Option Bx} {b : Nat} (tb : List (Nat × Option Bx)) (h : box b = box' b) : bput box tb b = bput box' tb b := by
  induction tb with
  | nil => exact h
  | cons p l ih =>
    simp only [bput]
    split
    · rfl
    · exact ih

def eput (env : Nat → AV) (dst : Option Tmp) (x : AV) : Nat → AV :=
  match dst with
  | some d => fun t => if t = d then x else env t
  | none => env

def AS.app (A : AS) (dst : Option Tmp) (S : OpS) : AS := ⟨eput A.env dst S.x, bput A.box S.tb, fun b => A.used b ∨ ∃ r, (b, r) ∈ S.tb⟩

/-- The heap's part of a step. -/
structure Step (cx : Cx) (ι : Nat → Option Nat) (box : Nat → Option Bx) (used : Nat → Prop) (w : World) (ι' : Nat → Option Nat) (box' : Nat → Option Bx) (used' : Nat → Prop) (w' : World) : Prop where
  h : HSat cx ι' box' used' w'
  keep : ∀ v y, RepA ι (Mof cx ι box) w v y → RepA ι' (Mof cx ι' box') w' v y
  oth : Oth w w'

def Yields (P : Program) (cx : Cx) (o : Oper) (ρ : Operand → AV) (S : OpS) : Prop :=
  ∀ ι box (used : Nat → Prop) (a : Act) w, HSat cx ι box used w → True → (∀ b x, (b, x) ∈ S.fp → box b = some x) → (∀ b x, (b, some x) ∈ S.tb → (∃ y, (b, y) ∈ S.fp) ∨ ¬ used b) → (∀ y, y ∈ o.op.operands → RepA ι (Mof cx ι box) w (a.eval y) (ρ y)) →
    ∀ (K : Act → World → Prop) (Q : Exit → Act → World → Prop), (∀ v ι' w', Step cx ι box used w ι' (bput box S.tb) (fun b => used b ∨ ∃ r, (b, r) ∈ S.tb) w' → RepA ι' (Mof cx ι' (bput box S.tb)) w' v S.x → K (a.put o.dst v) w') → o.wp P a w K Q

theorem Yields.congr {P : Program} {cx : Cx} {o : Oper} {ρ ρ' : Operand → AV} {S : OpS} (h : Yields P cx o ρ S) (he : ∀ y, y ∈ o.op.operands → ρ' y = ρ y) : Yields P cx o ρ' S :=
  fun ι box used a w h1 h2 h3 h4 h5 => h ι box used a w h1 h2 h3 h4 fun y hy => by rw [← he y hy]; exact h5 y hy

/-- A step taken or passed over. -/
structure R where
  on : Bool
  S : OpS

def dstOf (ops : Array Oper) (j : Nat) : Option Tmp := (ops[j]?).bind (·.dst)

def GuardIs (ops : Array Oper) (o : Oper) (env : Nat → AV) (on : Bool) : Prop :=
  match o.guard with
  | none => on = true
  | some (j, want) => ∃ d c b, dstOf ops j = some d ∧ ((env d = .v (.bool b) ∧ c = true) ∨ env d = .iff c (.v (.bool b))) ∧ on = (c && (b == want))

structure StepOK (P : Program) (cx : Cx) (ops : Array Oper) (o : Oper) (A : AS) (r : R) : Prop where
  g : GuardIs ops o A.env r.on
  y : r.on = true → Yields P cx o A.eval r.S
  off : r.on = false → (∀ p, p ∈ r.S.tb → p.2 = none) ∧ ∀ ι M w, RepA ι M w undef r.S.x
  fp : ∀ b x, (b, x) ∈ r.S.fp → A.box b = some x
  fresh : ∀ b x, (b, some x) ∈ r.S.tb → (∃ y, (b, y) ∈ r.S.fp) ∨ ¬ A.used b
  dst : ∀ d, o.dst = some d → d < cx.N
  nd : ∀ c, o.op ≠ .defer c

section
variable {P : Program} {cx : Cx} {ops : Array Oper} {md : Region.Mode} {Q : Exit → Act → World → Prop}

theorem Act.getD_put {a : Act} {dst : Option Tmp} {v : Value} {t : Nat} (h : ∀ d, dst = some d → d < a.tmps.size) : (a.put dst v).tmps.getD t undef = if dst = some t then v else a.tmps.getD t undef := by
  cases dst with
  | none => simp [Act.put]
  | some d =>
    have hd := h d rfl
    simp only [Act.put, Option.some.injEq, Array.getD_eq_getD_getElem?]
    by_cases e : d = t
    · subst e; simp [hd]
    · simp [e]

theorem Act.size_put (a : Act) (dst : Option Tmp) (v : Value) : (a.put dst v).tmps.size = a.tmps.size := by
  cases dst <;> simp [Act.put]
theorem Act.defers_put (a : Act) (dst : Option Tmp) (v : Value) : (a.put dst v).defers = a.defers := by
  cases dst <;> simp [Act.put]

theorem Marks.keep {cx : Cx} {w w' : World} : ∀ {l : List Deferred}, Marks cx w l → Oth w w' → Marks cx w' l
  | [], _, _ => trivial
  | _ :: _, ⟨⟨D, h1, h2, h3, h4⟩, h⟩, ho => ⟨⟨D, h1, h2, ho _ _ h3 rfl, h4⟩, Marks.keep h ho⟩

theorem guard_wanted {o : Oper} {A : AS} {on : Bool} {ι : Nat → Option Nat} {a : Act} {w : World} (hs : Sat cx ι A a w) (h : GuardIs ops o A.env on) : Region.wanted o (yielded ops a.tmps) = on := by
  unfold GuardIs at h
  unfold Region.wanted
  cases hg : o.guard with
  | none => simp only [hg] at h; simp [h]
  | some jw =>
    obtain ⟨j, want⟩ := jw
    simp only [hg] at h
    obtain ⟨d, c, b, hd, he, rfl⟩ := h
    have h1 := hs.env d
    have hy : yielded ops a.tmps j = if c then some b else none := by
      have key : ∀ v, RepA ι (Mof cx ι A.box) w v (A.env d) → (c = true ∧ v = .bool b) ∨ (c = false ∧ v = undef) := fun v hv => by
        rcases he with ⟨he, rfl⟩ | he
        · rw [he] at hv; exact .inl ⟨rfl, hv.ofV⟩
        · rw [he] at hv
          cases hv with
          | d h => cases h
          | iffT h => exact .inl ⟨rfl, h.ofV⟩
          | iffF => exact .inr ⟨rfl, rfl⟩
      unfold yielded
      unfold dstOf at hd
      rw [hd]
      rcases key _ h1 with ⟨rfl, hv⟩ | ⟨rfl, hv⟩
      · have h3 : a.tmps[d]? = some (.bool b) := by
          rw [Array.getD_eq_getD_getElem?] at hv
          cases hx : a.tmps[d]? with
          | none => rw [hx] at hv; simp [undef] at hv
          | some x => rw [hx] at hv; simpa using hv
        simp [h3]
      · have h3 : a.tmps[d]? = none ∨ a.tmps[d]? = some undef := by
          rw [Array.getD_eq_getD_getElem?] at hv
          cases hx : a.tmps[d]? with
          | none => exact .inl rfl
          | some x => rw [hx] at hv; exact .inr (by simpa using hv)
        rcases h3 with h3 | h3 <;> simp [h3, undef]
    simp only [hy]
    cases c <;> cases b <;> cases want <;> rfl

theorem Sat.put {ι ι' : Nat → Option Nat} {A : AS} {a : Act} {w w' : World} {dst : Option Tmp} {S : OpS} {v : Value} (hs : Sat cx ι A a w) (hd : ∀ d, dst = some d → d < cx.N)
    (hst : Step cx ι A.box A.used w ι' (bput A.box S.tb) (fun b => A.used b ∨ ∃ r, (b, r) ∈ S.tb) w') (hv : RepA ι' (Mof cx ι' (bput A.box S.tb)) w' v S.x) : Sat cx ι' (A.app dst S) (a.put dst v) w' where
  h := hst.h
  size := by rw [Act.size_put, hs.size]
  defers := by rw [Act.defers_put]; exact hs.defers.keep hst.oth
  env := fun t => by
    rw [Act.getD_put (by rw [hs.size]; exact hd)]
    have h1 := hst.keep _ _ (hs.env t)
    cases dst with
    | none => simpa [AS.app, eput] using h1
    | some d =>
      simp only [AS.app, eput, Option.some.injEq]
      by_cases e : d = t
      · subst e; simp; exact hv
      · rw [if_neg e, if_neg (fun h => e h.symm)]; exact h1

theorem Step.refl {ι : Nat → Option Nat} {box : Nat → Option Bx} {used : Nat → Prop} {w : World} (h : HSat cx ι box used w) : Step cx ι box used w ι box used w := ⟨h, fun _ _ h => h, Oth.refl _⟩

theorem HSat.used_mono {ι : Nat → Option Nat} {box : Nat → Option Bx} {used used' : Nat → Prop} {w : World} (h : HSat cx ι box used w) (hu : ∀ b, used b → used' b) : HSat cx ι box used' w :=
  ⟨h.wi, h.m0, h.fix, fun b g hb => ⟨hu b (h.dom b g hb).1, (h.dom b g hb).2⟩, fun b x hb => hu b (h.ub b x hb), h.own, h.inj⟩

/-- Boxes are given up. -/
theorem step_nones {ι : Nat → Option Nat} {box : Nat → Option Bx} {used : Nat → Prop} {w : World} (hs : HSat cx ι box used w) {tb : List (Nat × Option Bx)} (h : ∀ p, p ∈ tb → p.2 = none) : Step cx ι box used w ι (bput box tb) (fun b => used b ∨ ∃ r, (b, r) ∈ tb) w := by
  have hb : ∀ b x, bput box tb b = some x → box b = some x := by
    clear hs
    induction tb with
    | nil => exact fun b x h => h
    | cons p l ih =>
      intro b x hx
      simp only [bput] at hx
      by_cases hbp : b = p.1
      · rw [if_pos hbp, h p (by simp)] at hx; cases hx
      · rw [if_neg hbp] at hx; exact ih (fun q hq => h q (List.mem_cons_of_mem _ hq)) b x hx
  have hk : ∀ v y, RepA ι (Mof cx ι box) w v y → RepA ι (Mof cx ι (bput box tb)) w v y := fun v y h => h.less fun _ => Mof.mono hb
  refine ⟨⟨hs.wi, hs.m0, hs.fix, fun b g hg => ⟨.inl (hs.dom b g hg).1, (hs.dom b g hg).2⟩, fun b x h => .inl (hs.ub b x (hb b x h)), fun b x h => ?_, fun b b' x x' g h1 h2 => hs.inj b b' x x' g (hb b x h1) (hb b' x' h2)⟩, hk, Oth.refl _⟩
  rcases hs.own b x (hb b x h) with h | ⟨g, e1, e2, e3, c, e4, e5, e6⟩
  · exact .inl h
  · exact .inr ⟨g, e1, e2, e3, c, e4, e5, fun j v y hv hy => ⟨(e6 j v y hv hy).1, hk _ _ (e6 j v y hv hy).2⟩⟩

/-- What an operation does it does in a round, too. -/
theorem op_in {o : Oper} {a : Act} {w : World} {K : Act → World → Prop} (hd : ∀ c, o.op ≠ .defer c) (h : o.wp P a w K Q) : o.wpIn (fen cx.R) 9 P a w K Q := by
  refine ⟨fun _ _ => trivial, ?_⟩
  have he : Oper.semAt (fen cx.R).round a.eval o = execOp a.eval o := Oper.semAt_eq _ _ _ hd
  rw [he]
  unfold Oper.wp at h
  generalize (execOp a.eval o).run P w = r at h ⊢
  cases r with
  | ok x w' =>
    cases x with
    | enter f args => exact ⟨fun h => (by cases h), fen_calls.2 h⟩
    | row row args => exact ⟨fun h => (by cases h), fen_rows.2 h⟩
    | round => exact h.elim
    | _ => exact h
  | halt x w' => cases x <;> exact h

/-- One step, as the code's rules have it. -/
theorem wpOp_of_step {i : Nat} {o : Oper} (ho : ops[i]? = some o) {A : AS} {r : R} {ι : Nat → Option Nat} {a : Act} {w : World} (hs : Sat cx ι A a w) (h : StepOK P cx ops o A r) {K : Act → World → Prop}
    (hK : ∀ ι' a' w', Sat cx ι' (A.app o.dst r.S) a' w' → K a' w') : wpOpIn (fen cx.R) 9 P ops Q i K a w := by
  unfold wpOpIn
  simp only [ho, guard_wanted hs h.g]
  cases hon : r.on with
  | true =>
    simp only [if_true]
    refine op_in h.nd (h.y hon ι A.box A.used a w hs.h trivial h.fp h.fresh (fun y _ => hs.eval y) K Q ?_)
    intro v ι' w' hst hv
    exact hK _ _ _ (hs.put h.dst hst hv)
  | false =>
    simp only [Bool.false_eq_true, if_false]
    obtain ⟨he, hu⟩ := h.off hon
    exact ⟨fun _ _ => trivial, hK ι _ _ (hs.put h.dst (step_nones hs.h he) (hu _ _ _))⟩

/-- The steps in the text's order. -/
inductive Chain (P : Program) (cx : Cx) (ops : Array Oper) : List Oper → AS → List R → AS → Prop
  | nil (A : AS) : Chain P cx ops [] A [] A
  | cons {o : Oper} {l : List Oper} {A A' : AS} {r : R} {rs : List R} (h : StepOK P cx ops o A r) (t : Chain P cx ops l (A.app o.dst r.S) rs A') : Chain P cx ops (o :: l) A (r :: rs) A'

theorem wpOps_of_chain {A' : AS} (hQ : ∀ ι a w, Sat cx ι A' a w → Q .normal a w) : ∀ (l : List Oper) (k : Nat) (rs : List R) (A : AS) (ι : Nat → Option Nat) (a : Act) (w : World), (∀ j, l[j]? = ops[k + j]?) → Chain P cx ops l A rs A' → Sat cx ι A a w →
    wpOpsIn (fen cx.R) 9 P ops Q (List.range' k l.length) a w
  | [], k, rs, A, ι, a, w, _, hc, hs => by cases hc; exact hQ ι a w hs
  | o :: l, k, rs, A, ι, a, w, hl, hc, hs => by
    cases hc with
    | cons h t =>
      have h0 : ops[k]? = some o := by simpa using (hl 0).symm
      rw [List.length_cons, List.range'_succ, wpOpsIn_cons]
      exact wpOp_of_step h0 hs h fun ι' a' w' hs' => wpOps_of_chain hQ l (k + 1) _ _ ι' a' w' (fun j => by have := hl (j + 1); simpa [Nat.add_assoc, Nat.add_comm 1 j] using this) t hs'

/-- A region whose order is the text's. -/
theorem awp_region {id : Nat} {A A' : AS} {rs : List R} {Q : Exit → AS → Prop} (hc : Chain P cx ops ops.toList A rs A') (hQ : Q .normal A') : AWp P cx (.region id ops false) Q A := by
  intro ι a w hs
  refine wpIn_region ?_
  have := wpOps_of_chain (P := P) (cx := cx) (ops := ops) (Q := fun e a' w' => ∃ ι' A', Sat cx ι' A' a' w' ∧ Q e A') (A' := A') (fun ι a w h => ⟨ι, A', h, hQ⟩) ops.toList 0 rs A ι a w (by simp) hc hs
  simpa [List.range_eq_range'] using this

/-- The names that a step looks at, and those that it turns. -/
def OpS.reads (S : OpS) : List Nat := S.fp.map (·.1)
def OpS.turns (S : OpS) : List Nat := S.tb.map (·.1)

/-- Two steps whose boxes have nothing to do with one another. -/
def napart (s t : List Nat × List Nat) : Bool := s.2.all (fun b => !t.1.contains b && !t.2.contains b) && t.2.all (fun b => !s.1.contains b)

def OpS.nm (S : OpS) : List Nat × List Nat := (S.reads, S.turns)

theorem mem_turns {S : OpS} {b : Nat} : b ∈ S.turns ↔ ∃ r, (b, r) ∈ S.tb := by simp [OpS.turns]
theorem mem_reads {S : OpS} {b : Nat} : b ∈ S.reads ↔ ∃ x, (b, x) ∈ S.fp := by simp [OpS.reads]

theorem napart_spec {S T : OpS} (h : napart S.nm T.nm = true) : (∀ b r, (b, r) ∈ S.tb → (∀ x, (b, x) ∉ T.fp) ∧ ∀ r, (b, r) ∉ T.tb) ∧ (∀ b r, (b, r) ∈ T.tb → ∀ x, (b, x) ∉ S.fp) := by
  simp only [napart, OpS.nm, Bool.and_eq_true, List.all_eq_true, Bool.not_eq_true', List.contains_eq_mem, decide_eq_false_iff_not] at h
  obtain ⟨h1, h2⟩ := h
  constructor
  · intro b r hr
    obtain ⟨h3, h4⟩ := h1 b (mem_turns.2 ⟨r, hr⟩)
    exact ⟨fun x hx => h3 (mem_reads.2 ⟨x, hx⟩), fun r' hr' => h4 (mem_turns.2 ⟨r', hr'⟩)⟩
  · intro b r hr x hx
    exact h2 b (mem_turns.2 ⟨r, hr⟩) (mem_reads.2 ⟨x, hx⟩)

theorem eput_comm {env : Nat → AV} {d e : Option Tmp} {x y : AV} (h : ∀ t, d = some t → e ≠ some t) : eput (eput env d x) e y = eput (eput env e y) d x := by
  cases d with
  | none => rfl
  | some d =>
    cases e with
    | none => rfl
    | some e =>
      have hne : d ≠ e := fun he => h d rfl (he ▸ rfl)
      funext t
      simp only [eput]
      by_cases h1 : t = e <;> by_cases h2 : t = d
      · exact absurd (h2.symm.trans h1) hne
      · simp [h1, Ne.symm hne]
      · simp [h2, hne]
      · simp [h1, h2]

theorem bput_comm {box : Nat → Option Bx} {s t : List (Nat × Option Bx)} (h : ∀ b r, (b, r) ∈ s → ∀ r', (b, r') ∉ t) : bput (bput box s) t = bput (bput box t) s := by
  funext b
  by_cases hb : ∃ r, (b, r) ∈ s
  · obtain ⟨r, hr⟩ := hb
    have h1 : bput (bput box s) t b = bput box s b := bput_not (h b r hr)
    rw [h1]
    exact (bput_congr s (bput_not (box := box) (h b r hr))).symm
  · have h2 : ∀ r, (b, r) ∉ s := fun r hr => hb ⟨r, hr⟩
    rw [bput_not (box := bput box t) h2]
    exact bput_congr t (bput_not h2)

theorem app_comm {A : AS} {d e : Option Tmp} {S T : OpS} (hd : ∀ t, d = some t → e ≠ some t) (hn : ∀ b r, (b, r) ∈ S.tb → ∀ r', (b, r') ∉ T.tb) : (A.app d S).app e T = (A.app e T).app d S := by
  simp only [AS.app, eput_comm hd, bput_comm hn, AS.mk.injEq, true_and]
  funext b
  exact propext ⟨fun h => by rcases h with (h | h) | h <;> simp [h], fun h => by rcases h with (h | h) | h <;> simp [h]⟩

theorem eval_app {A : AS} {d : Option Tmp} {S : OpS} {y : Operand} (h : ∀ t, d = some t → y ≠ .tmp t) : (A.app d S).eval y = A.eval y := by
  cases y with
  | tmp t =>
    cases d with
    | none => rfl
    | some d =>
      have : t ≠ d := fun e => h d rfl (e ▸ rfl)
      simp [AS.eval, AS.app, eput, this]
  | _ => rfl

theorem guardIs_app {o : Oper} {A : AS} {d : Option Tmp} {S : OpS} {on : Bool} (h : ∀ t, d = some t → t ∉ o.looksAt ops) : GuardIs ops o (A.app d S).env on ↔ GuardIs ops o A.env on := by
  unfold GuardIs
  cases hg : o.guard with
  | none => simp
  | some jw =>
    obtain ⟨j, want⟩ := jw
    have key : ∀ t, dstOf ops j = some t → (A.app d S).env t = A.env t := by
      intro t ht
      cases d with
      | none => rfl
      | some d =>
        have : t ≠ d := by
          rintro rfl
          refine h t rfl ?_
          unfold Oper.looksAt
          refine List.mem_append_right _ ?_
          simp only [hg]
          unfold dstOf at ht
          simp [ht]
        simp [AS.app, eput, this]
    constructor
    · rintro ⟨t, c, b, h1, h2, h3⟩; exact ⟨t, c, b, h1, by rw [← key t h1]; exact h2, h3⟩
    · rintro ⟨t, c, b, h1, h2, h3⟩; exact ⟨t, c, b, h1, by rw [key t h1]; exact h2, h3⟩

theorem operand_looks {o : Oper} {t : Tmp} (h : Operand.tmp t ∈ o.op.operands) : t ∈ o.looksAt ops :=
  List.mem_append_left _ (List.mem_filterMap.2 ⟨.tmp t, by simpa using h, rfl⟩)

/-- Behind another step that has nothing to do with it a step is what it was. -/
theorem StepOK.back {o : Oper} {A : AS} {d : Option Tmp} {S : OpS} {r : R} (hl : ∀ t, d = some t → t ∉ o.looksAt ops) (hn : ∀ b x, (b, x) ∈ S.tb → ∀ y, (b, y) ∉ r.S.fp) (h : StepOK P cx ops o (A.app d S) r) : StepOK P cx ops o A r where
  g := (guardIs_app hl).1 h.g
  y := fun hon => (h.y hon).congr fun y hy => (eval_app (S := S) fun t ht e => hl t ht (operand_looks (by rw [← e]; exact hy))).symm
  off := h.off
  fp := fun b x hx => by
    have := h.fp b x hx
    have h2 : bput A.box S.tb b = A.box b := bput_not fun r hr => hn b r hr x hx
    exact h2 ▸ this
  fresh := fun b x hx => (h.fresh b x hx).imp id fun h hu => h (.inl hu)
  dst := h.dst
  nd := h.nd

theorem StepOK.fwd {o : Oper} {A : AS} {d : Option Tmp} {S : OpS} {r : R} (hl : ∀ t, d = some t → t ∉ o.looksAt ops) (hn : ∀ b x, (b, x) ∈ S.tb → (∀ y, (b, y) ∉ r.S.fp) ∧ ∀ y, (b, y) ∉ r.S.tb) (h : StepOK P cx ops o A r) : StepOK P cx ops o (A.app d S) r where
  g := (guardIs_app hl).2 h.g
  y := fun hon => (h.y hon).congr fun y hy => eval_app (S := S) fun t ht e => hl t ht (operand_looks (by rw [← e]; exact hy))
  off := h.off
  fp := fun b x hx => by
    have h2 : bput A.box S.tb b = A.box b := bput_not fun r hr => (hn b r hr).1 x hx
    exact h2.trans (h.fp b x hx)
  fresh := fun b x hx => (h.fresh b x hx).imp id fun h hu => by
    rcases hu with hu | ⟨r', hr'⟩
    · exact h hu
    · exact (hn b r' hr').2 _ hx
  dst := h.dst
  nd := h.nd

/-- Whatever order is picked from here on. -/
def anyR (P : Program) (cx : Cx) (md : Region.Mode) (ops : Array Oper) (rs : Nat → R) (Q : AS → Prop) : Nat → Array Bool → AS → Prop
  | 0, listed, A => Region.ready md ops listed = [] ∧ Q A
  | fuel + 1, listed, A => (Region.ready md ops listed = [] → Q A) ∧ ∀ i, i ∈ Region.ready md ops listed → ∃ o, ops[i]? = some o ∧ StepOK P cx ops o A (rs i) ∧ anyR P cx md ops rs Q fuel (listed.setIfInBounds i true) (A.app o.dst (rs i).S)

theorem wpAny_of_anyR {rs : Nat → R} {Q' : AS → Prop} (hQ : ∀ ι A a w, Sat cx ι A a w → Q' A → Q .normal a w) : ∀ (fuel : Nat) (listed : Array Bool) (A : AS) (ι : Nat → Option Nat) (a : Act) (w : World), Sat cx ι A a w → anyR P cx md ops rs Q' fuel listed A → wpAnyIn (fen cx.R) 9 P md ops Q fuel listed a w
  | 0, _, _, _, _, _, hs, h => ⟨h.1, hQ _ _ _ _ hs h.2⟩
  | fuel + 1, _, _, _, _, _, hs, h => ⟨fun h0 => hQ _ _ _ _ hs (h.1 h0), fun i hi => by
      obtain ⟨o, ho, h1, h2⟩ := h.2 i hi
      exact wpOp_of_step ho hs h1 fun ι' a' w' hs' => wpAny_of_anyR hQ fuel _ _ ι' a' w' hs' h2⟩

/-- An operation that may come up now may be taken first, if those that do not wait for it have nothing to do with it. -/
theorem anyR_first {rs : Nat → R} {Q' : AS → Prop} {i : Nat} {oi : Oper} (hi : ops[i]? = some oi) : ∀ (fuel : Nat) (listed : Array Bool) (A : AS),
    (∀ j oj, ops[j]? = some oj → j ≠ i → listed.getD j true = false → (∀ e, e ∈ oj.after → Region.binds md e = true → e.on ≠ i) → oi.apart ops oj = true ∧ napart (rs i).S.nm (rs j).S.nm = true) →
    i ∈ Region.ready md ops listed → StepOK P cx ops oi A (rs i) →
    anyR P cx md ops rs Q' fuel (listed.setIfInBounds i true) (A.app oi.dst (rs i).S) → anyR P cx md ops rs Q' (fuel + 1) listed A := by
  intro fuel
  induction fuel with
  | zero =>
    intro listed A _ hr hy H
    refine ⟨fun h => (by rw [h] at hr; cases hr), fun j hj => ?_⟩
    by_cases hji : j = i
    · subst hji; exact ⟨oi, hi, hy, H⟩
    · have := ready_mono hj hji
      rw [H.1] at this
      cases this
  | succ fuel ih =>
    intro listed A hfree hr hy H
    refine ⟨fun h => (by rw [h] at hr; cases hr), fun j hj => ?_⟩
    by_cases hji : j = i
    · subst hji; exact ⟨oi, hi, hy, H⟩
    · obtain ⟨oj, hoj, h1, h2⟩ := H.2 j (ready_mono hj hji)
      obtain ⟨hjun, oj', hoj', hall⟩ := mem_ready.1 hj
      obtain rfl : oj' = oj := by rw [hoj] at hoj'; exact (Option.some.inj hoj').symm
      have hnot : ∀ e, e ∈ oj'.after → Region.binds md e = true → e.on ≠ i := fun e he hb heq => by
        have h1 := hall e he hb
        have h0 := (mem_ready.1 hr).1
        rw [heq] at h1
        rcases Nat.lt_or_ge i listed.size with h' | h'
        · simp [h'] at h0 h1; rw [h0] at h1; cases h1
        · simp [Array.getElem?_eq_none h'] at h1
      obtain ⟨hap, hna⟩ := hfree j oj' hoj hji hjun hnot
      obtain ⟨a1, a2, a3⟩ := Oper.apart_spec hap
      obtain ⟨n1, n2⟩ := napart_spec hna
      have hfree' : ∀ k ok, ops[k]? = some ok → k ≠ i → (listed.setIfInBounds j true).getD k true = false →
          (∀ e, e ∈ ok.after → Region.binds md e = true → e.on ≠ i) → oi.apart ops ok = true ∧ napart (rs i).S.nm (rs k).S.nm = true := fun k ok hk hki hun hno => by
        refine hfree k ok hk hki ?_ hno
        by_cases hjk : j = k
        · subst hjk; exact hjun
        · rw [getD_set_ne true hjk] at hun; exact hun
      refine ⟨oj', hoj, h1.back a1 (fun b r hr y hy => (n1 b r hr).1 y hy), ih (listed.setIfInBounds j true) _ hfree' (ready_mono hr (Ne.symm hji)) (hy.fwd a3 fun b r hr => ⟨fun y => n2 b r hr y, fun y hy' => (n1 b y hy').2 r hr⟩) ?_⟩
      rw [Array.setIfInBounds_comm _ _ hji, app_comm (fun t ht => fun h => a2 t h ht) (fun b r hr r' hr' => (n1 b r' hr').2 r hr)]
      exact h2

/-- The names' check: each step against those behind it that do not wait for it. -/
def napAll (md : Region.Mode) : List Oper → Nat → List (List Nat × List Nat) → Bool
  | _ :: l, k, s :: ss => (l.zip ss).all (fun p => p.1.after.any (fun e => Region.binds md e && e.on == k) || napart s p.2) && napAll md l (k + 1) ss
  | _, _, _ => true

theorem anyR_lex {rs : Nat → R} {A' : AS} {Q' : AS → Prop} (hQ : Q' A') : ∀ (l : List Oper) (k : Nat) (listed : Array Bool) (A : AS) (ss : List R), (∀ j, l[j]? = ops[k + j]?) → (∀ j, j < l.length → ss[j]? = some (rs (k + j))) → (∀ j, listed.getD j true = false → k ≤ j) →
    Region.lexFrom md ops l.length k listed = true → napAll md l k (ss.map fun r => r.S.nm) = true → Chain P cx ops l A ss A' → anyR P cx md ops rs Q' l.length listed A
  | [], _, _, _, _, _, _, _, hB, _, hc => by cases hc; exact ⟨by simpa [Region.lexFrom] using hB, hQ⟩
  | o :: l, k, listed, A, ss, hl, hss, hlst, hB, hn, hc => by
    cases hc with
    | @cons _ _ _ _ r rs' h t =>
      have h0 : ops[k]? = some o := by simpa using (hl 0).symm
      have hr0 : rs k = r := by have := hss 0 (by simp); simpa using this.symm
      simp only [List.length_cons, Region.lexFrom, Bool.and_eq_true] at hB
      obtain ⟨⟨hr, hf⟩, hB'⟩ := hB
      simp only [List.map_cons, napAll, Bool.and_eq_true, List.all_eq_true] at hn
      obtain ⟨hn1, hn2⟩ := hn
      have hl' : ∀ j, l[j]? = ops[k + 1 + j]? := fun j => by have := hl (j + 1); simpa [Nat.add_assoc, Nat.add_comm 1 j] using this
      have hss' : ∀ j, j < l.length → rs'[j]? = some (rs (k + 1 + j)) := fun j hj => by have := hss (j + 1) (by simpa using hj); simpa [Nat.add_assoc, Nat.add_comm 1 j] using this
      rw [← hr0] at h t
      refine anyR_first h0 l.length listed A ?_ (by simpa using hr) h (anyR_lex hQ l (k + 1) _ _ rs' hl' hss' ?_ hB' hn2 t)
      · intro j oj hj hji hun hno
        refine ⟨Region.free_spec h0 hf j oj hj hji hun hno, ?_⟩
        have hkj : k < j := by have := hlst j hun; omega
        obtain ⟨m, rfl⟩ : ∃ m, j = k + 1 + m := ⟨j - (k + 1), by omega⟩
        have hm : l[m]? = some oj := by rw [hl' m]; exact hj
        have hml : m < l.length := (List.getElem?_eq_some_iff.1 hm).1
        have hmem : (oj, (rs (k + 1 + m)).S.nm) ∈ l.zip (rs'.map fun r => r.S.nm) := by
          refine List.mem_of_getElem? (i := m) ?_
          rw [List.getElem?_zip_eq_some]
          exact ⟨hm, by simp [hss' m hml]⟩
        have := hn1 _ hmem
        simp only [Bool.or_eq_true] at this
        rcases this with h1 | h1
        · obtain ⟨e, he, hb⟩ := Array.any_eq_true'.1 h1
          simp only [Bool.and_eq_true, beq_iff_eq] at hb
          exact absurd hb.2 (hno e he hb.1)
        · rw [hr0] at *; exact h1
      · intro j hun
        by_cases hjk : k = j
        · subst hjk
          exfalso
          have : (listed.setIfInBounds k true).getD k true = true := by
            rw [Array.getD_eq_getD_getElem?]
            rcases Nat.lt_or_ge k listed.size with h' | h'
            · simp [h']
            · rw [Array.getElem?_eq_none (by simpa using h')]; rfl
          rw [this] at hun; cases hun
        · rw [getD_set_ne true hjk] at hun
          have := hlst j hun; omega

theorem Sat.drew {ι : Nat → Option Nat} {A : AS} {a : Act} {w : World} (hs : Sat cx ι A a w) : Sat cx ι A a { w with drawn := w.drawn + 1 } := by
  have hk : ∀ v y, RepA ι (Mof cx ι A.box) w v y → RepA ι (Mof cx ι A.box) { w with drawn := w.drawn + 1 } v y := fun v y h => RepA.keep (w := w) (w' := { w with drawn := w.drawn + 1 }) (fun _ _ h => h) (fun _ _ h => h) ⟨Nat.le_refl _, fun _ c _ h => ⟨c, h, rfl⟩⟩ (fun _ _ _ => rfl) h
  refine ⟨⟨⟨hs.h.wi.os, hs.h.wi.tape, hs.h.wi.output, hs.h.wi.evo.trans ⟨Nat.le_refl _, fun _ c _ h => ⟨c, h, rfl⟩⟩, hs.h.wi.oth, hs.h.wi.block⟩, hs.h.m0, hs.h.fix, hs.h.dom, hs.h.ub, ?_, hs.h.inj⟩, hs.size, hs.defers.keep (Oth.refl w), fun t => hk _ _ (hs.env t)⟩
  intro b x hb
  rcases hs.h.own b x hb with h1 | ⟨g, h1, h2, h3, c, h4, h5, h6⟩
  · exact .inl h1
  exact .inr ⟨g, h1, h2, h3, c, h4, h5, fun j v y hv hy => ⟨(h6 j v y hv hy).1, hk _ _ (h6 j v y hv hy).2⟩⟩

theorem Chain.length {l : List Oper} {A A' : AS} {ss : List R} (h : Chain P cx ops l A ss A') : ss.length = l.length := by
  induction h with
  | nil => rfl
  | cons _ _ ih => simp [ih]

/-- A region that draws its order. -/
theorem awp_region_draw {id : Nat} {A A' : AS} {ss : List R} {Q : Exit → AS → Prop} (hm : P.follows .mixedOrders = true) (hB : Region.lexB .any ops = true) (hc : Chain P cx ops ops.toList A ss A')
    (hn : napAll .any ops.toList 0 (ss.map fun r => r.S.nm) = true) (hQ : Q .normal A') : AWp P cx (.region id ops true) Q A := by
  intro ι a w hs
  simp only [Region.lexB, Bool.and_eq_true] at hB
  have hlen := hc.length
  have hR : anyR P cx .any ops (fun i => ss.getD i ⟨false, ⟨[], .any, []⟩⟩) (fun A => Q .normal A) ops.size (Array.replicate ops.size false) A := anyR_lex (P := P) (cx := cx) (ops := ops) (md := .any) (rs := fun i => ss.getD i ⟨false, ⟨[], .any, []⟩⟩) (A' := A') (Q' := fun A => Q .normal A) hQ ops.toList 0 (Array.replicate ops.size false) A ss (by simp)
    (fun j hj => by simp [List.getElem?_eq_getElem (hlen ▸ hj)]) (fun j _ => Nat.zero_le j) (by simpa using hB.2) hn hc
  refine wpIn_region_any hm (wpAny_of_anyR (Q := fun e a' w' => ∃ ι' A', Sat cx ι' A' a' w' ∧ Q e A') (fun ι A a w h1 h2 => ⟨ι, A, h1, h2⟩) _ _ A ι a _ hs.drew hR)
end

end Go.Proofs.Ytjplhfmakghabaa.V
