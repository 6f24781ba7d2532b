/- Abstract states: what is known of temporaries and of the call's own blocks; the rules of the code's words. -/
import Derived.Test.YtjplhfmakghabaaV1
import Derived.Sort.LoopGhostIn
import Derived.OrdersIn
import Derived.TacticsIn
import Derived.RangeFuncLeaves
import Derived.RangeFuncFrom
set_option linter.unusedSimpArgs false
set_option linter.unusedVariables false
namespace Go.Proofs.Ytjplhfmakghabaa.V
open Go.RowKit

/-- A block of the call's own: its elements' type, what its first cells hold. -/
structure Bx where
  t : TypeId
  cs : List AV

structure AS where
  env : Nat → AV
  box : Nat → Option Bx
  used : Nat → Prop

/-- A call: the world in which it began, the blocks of its caller's that it may write, those that it must leave to others, how many temporaries it has, of which round its frame is, where its caller's boxes lie. -/
structure Cx where
  w0 : World
  G : Nat → Prop
  M0 : Nat → Prop
  N : Nat
  R : Option Nat
  F : Nat → Option Nat

/-- The fence within which a frame walks: none but the round. -/
def fen (r : Option Nat) : Fence := { fn := fun _ => True, depth := none, alive := false, round := r }

abbrev Cx.base (cx : Cx) : Nat := cx.w0.heap.size

theorem fen_calls {r : Option Nat} {n : Nat} {P : Program} {f : FuncId} {args : Array Value} {w : World} {R : Ending → World → Prop} : CallsIn (fen r) n P f args w R ↔ Calls P f args w R := callsIn_wide (n := n)
theorem fen_rows {r : Option Nat} {n : Nat} {P : Program} {row : String} {args : Array Value} {w : World} {R : Value → World → Prop} : RowsIn (fen r) n P row args w R ↔ Rows P row args w R :=
  ⟨fun h c cs => let ⟨v, w', q, s⟩ := h c cs (room_wide _); ⟨v, w', q, s.steps⟩, fun h c cs _ => let ⟨v, w', q, s⟩ := h c cs; ⟨v, w', q, stepsIn_wide.2 s⟩⟩

def Mof (cx : Cx) (ι : Nat → Option Nat) (box : Nat → Option Bx) (g : Nat) : Prop := cx.M0 g ∨ ∃ b x, box b = some x ∧ ι b = some g

/-- An object that is a block of cells. -/
def isC : Obj → Bool
  | .cells .. => true
  | .map .. => true
  | _ => false

/-- What is no block of cells stays. -/
def Oth (w w' : World) : Prop := ∀ (g : Nat) (o : Obj), w.heap[g]? = some o → isC o = false → w'.heap[g]? = some o

theorem Oth.refl (w : World) : Oth w w := fun _ _ h _ => h
theorem Oth.trans {a b c : World} (h : Oth a b) (k : Oth b c) : Oth a c := fun g o h1 h2 => k g o (h g o h1 h2) h2

/-- What the call has done to the world. -/
structure Within (cx : Cx) (w : World) : Prop where
  os : w.os = cx.w0.os
  tape : w.tape = cx.w0.tape
  output : w.output = cx.w0.output
  evo : Evo cx.w0 w
  oth : Oth cx.w0 w
  block : ∀ k, k < cx.base → ¬ cx.G k → w.heap[k]? = cx.w0.heap[k]?

def BoxRep (ι : Nat → Option Nat) (M : Nat → Prop) (w : World) (g : Nat) (x : Bx) : Prop :=
  ∃ c : Array Value, w.heap[g]? = some (.cells c x.t (0, 0)) ∧ x.cs.length ≤ c.size ∧ ∀ (j : Nat) (v : Value) (y : AV), c[j]? = some v → x.cs[j]? = some y → v.oneCell' = true ∧ RepA ι M w v y

structure HSat (cx : Cx) (ι : Nat → Option Nat) (box : Nat → Option Bx) (used : Nat → Prop) (w : World) : Prop where
  wi : Within cx w
  m0 : ∀ g, cx.M0 g → g < cx.base
  fix : ∀ b g, cx.F b = some g → ι b = some g
  dom : ∀ b g, ι b = some g → used b ∧ g < w.heap.size
  ub : ∀ b x, box b = some x → used b
  own : ∀ b x, box b = some x → (x.cs = [] ∧ ι b = none) ∨ ∃ g, ι b = some g ∧ (cx.base ≤ g ∨ cx.G g) ∧ ¬ cx.M0 g ∧ BoxRep ι (Mof cx ι box) w g x
  inj : ∀ b b' x x' g, box b = some x → box b' = some x' → ι b = some g → ι b' = some g → b = b'

/-- No deferred call but the marks of ranges over functions. -/
def Marks (cx : Cx) (w : World) : List Deferred → Prop
  | [] => True
  | d :: l => (∃ D, d = { target := .collected D, args := #[] } ∧ cx.base ≤ D ∧ w.heap[D]? = some (.deferred (some [])) ∧ ∀ d', d' ∈ l → d' ≠ { target := .collected D, args := #[] }) ∧ Marks cx w l

structure Sat (cx : Cx) (ι : Nat → Option Nat) (A : AS) (a : Act) (w : World) : Prop where
  h : HSat cx ι A.box A.used w
  size : a.tmps.size = cx.N
  defers : Marks cx w a.defers
  env : ∀ t, RepA ι (Mof cx ι A.box) w (a.tmps.getD t undef) (A.env t)

theorem HSat.ne {cx : Cx} {ι : Nat → Option Nat} {box : Nat → Option Bx} {used : Nat → Prop} {w : World} (h : HSat cx ι box used w) {b : Nat} {x : Bx} (hb : box b = some x) (hne : x.cs ≠ []) :
    ∃ g, ι b = some g ∧ (cx.base ≤ g ∨ cx.G g) ∧ ¬ cx.M0 g ∧ BoxRep ι (Mof cx ι box) w g x := by
  rcases h.own b x hb with ⟨h1, -⟩ | h1
  · exact absurd h1 hne
  · exact h1

def AWp (P : Program) (cx : Cx) (c : Code) (Q : Exit → AS → Prop) (A : AS) : Prop :=
  ∀ ι a w, Sat cx ι A a w → c.wpIn (fen cx.R) 9 P (fun e a' w' => ∃ ι' A', Sat cx ι' A' a' w' ∧ Q e A') a w

section
variable {P : Program} {cx : Cx} {A : AS}

theorem AWp.mono {c : Code} {Q Q' : Exit → AS → Prop} (h : AWp P cx c Q A) (hq : ∀ e A, Q e A → Q' e A) : AWp P cx c Q' A :=
  fun ι a w hs => wpIn_mono (h ι a w hs) fun _ _ _ ⟨ι', A', h1, h2⟩ => ⟨ι', A', h1, hq _ _ h2⟩

theorem awp_skip {Q : Exit → AS → Prop} (h : Q .normal A) : AWp P cx .skip Q A := fun ι a w hs => wpIn_skip ⟨ι, A, hs, h⟩
theorem awp_label {Q : Exit → AS → Prop} {l : Nat} (h : Q .normal A) : AWp P cx (.label l) Q A := fun ι a w hs => wpIn_label ⟨ι, A, hs, h⟩
theorem awp_exit {Q : Exit → AS → Prop} {id : Nat} (h : Q (.exit id) A) : AWp P cx (.exit id) Q A := fun ι a w hs => wpIn_exit ⟨ι, A, hs, h⟩
theorem awp_ret {Q : Exit → AS → Prop} (h : Q .ret A) : AWp P cx .ret Q A := fun ι a w hs => wpIn_ret ⟨ι, A, hs, h⟩

def athen (next : AS → Prop) (Q : Exit → AS → Prop) : Exit → AS → Prop
  | .normal, A => next A
  | e, A => Q e A
theorem awp_seq {x y : Code} {Q : Exit → AS → Prop} (h : AWp P cx x (athen (AWp P cx y Q) Q) A) : AWp P cx (.seq x y) Q A := by
  intro ι a w hs
  refine wpIn_seq (wpIn_mono (h ι a w hs) ?_)
  rintro e a' w' ⟨ι', A', h1, h2⟩
  cases e with
  | normal => exact h2 ι' a' w' h1
  | _ => exact ⟨ι', A', h1, h2⟩
theorem awp_seq_k {x y : Code} {Q : Exit → AS → Prop} (h : ∀ K : AS → Prop, (∀ A, AWp P cx y Q A → K A) → AWp P cx x (athen K Q) A) : AWp P cx (.seq x y) Q A := awp_seq (h _ fun _ h => h)

def ainBlock (id : Nat) (Q : Exit → AS → Prop) : Exit → AS → Prop
  | .exit id', A => if id' = id then Q .normal A else Q (.exit id') A
  | e, A => Q e A
theorem awp_block {id : Nat} {c : Code} {Q : Exit → AS → Prop} (h : AWp P cx c (ainBlock id Q) A) : AWp P cx (.block id c) Q A := by
  intro ι a w hs
  refine wpIn_block (wpIn_mono (h ι a w hs) ?_)
  rintro e a' w' ⟨ι', A', h1, h2⟩
  cases e with
  | exit id' =>
    simp only [ainBlock] at h2
    simp only [Exit.inBlock]
    split <;> rename_i hh <;> simp only [hh, if_true, if_false] at h2 <;> exact ⟨ι', A', h1, h2⟩
  | _ => exact ⟨ι', A', h1, h2⟩

def AS.eval (A : AS) : Operand → AV
  | .tmp t => A.env t
  | .const v => .v v
  | .global g => .v (.pointer (some ⟨g, 0, none⟩))
  | .func f => .v (.func (.func f) #[] #[])

theorem Sat.eval {ι : Nat → Option Nat} {a : Act} {w : World} (h : Sat cx ι A a w) (y : Operand) : RepA ι (Mof cx ι A.box) w (a.eval y) (A.eval y) := by
  cases y with
  | tmp t => exact h.env t
  | _ => exact .d (.v _)

theorem RepA.ofV {ι : Nat → Option Nat} {M : Nat → Prop} {w : World} {v x : Value} (h : RepA ι M w v (.v x)) : v = x := by
  cases h with
  | d h => cases h; rfl

theorem awp_cond {c : Operand} {x y : Code} {Q : Exit → AS → Prop} {b : Bool} (hc : A.eval c = .v (.bool b)) (ht : b = true → AWp P cx x Q A) (hf : b = false → AWp P cx y Q A) : AWp P cx (.cond c x y) Q A := by
  intro ι a w hs
  have h := hs.eval c
  rw [hc] at h
  exact wpIn_cond_split h.ofV (fun h => ht h ι a w hs) (fun h => hf h ι a w hs)

/-- Less is known. -/
structure Ent (A A' : AS) : Prop where
  env : ∀ t, A'.env t = .any ∨ A'.env t = A.env t
  box : ∀ b x, A'.box b = some x → A.box b = some x
  used : ∀ b, A.used b → A'.used b

theorem Mof.mono {ι : Nat → Option Nat} {box box' : Nat → Option Bx} (h : ∀ b x, box' b = some x → box b = some x) {g : Nat} : Mof cx ι box' g → Mof cx ι box g
  | .inl h => .inl h
  | .inr ⟨b, x, h1, h2⟩ => .inr ⟨b, x, h b x h1, h2⟩

theorem RepA.less {ι : Nat → Option Nat} {M M' : Nat → Prop} {w : World} (hM : ∀ g, M' g → M g) {v : Value} {y : AV} (h : RepA ι M w v y) : RepA ι M' w v y :=
  h.keep (fun _ _ h => h) (fun g _ h => hM g h) (Evo.refl w) (fun _ _ _ => rfl)

theorem Sat.ent {ι : Nat → Option Nat} {A' : AS} {a : Act} {w : World} (h : Sat cx ι A a w) (he : Ent A A') : Sat cx ι A' a w where
  h := {
    wi := h.h.wi
    m0 := h.h.m0
    fix := h.h.fix
    dom := fun b g hb => ⟨he.used b (h.h.dom b g hb).1, (h.h.dom b g hb).2⟩
    ub := fun b x hb => he.used b (h.h.ub b x (he.box b x hb))
    own := fun b x hb => by
      rcases h.h.own b x (he.box b x hb) with h1 | ⟨g, h1, h2, h3, c, h4, h5, h6⟩
      · exact .inl h1
      exact .inr ⟨g, h1, h2, h3, c, h4, h5, fun j v y hv hy => ⟨(h6 j v y hv hy).1, (h6 j v y hv hy).2.less fun _ => Mof.mono he.box⟩⟩
    inj := fun b b' x x' g h1 h2 => h.h.inj b b' x x' g (he.box b x h1) (he.box b' x' h2) }
  size := h.size
  defers := h.defers
  env := fun t => by
    rcases he.env t with h1 | h1
    · rw [h1]; exact .any _
    · rw [h1]; exact (h.env t).less fun _ => Mof.mono he.box

theorem awp_ent {c : Code} {Q : Exit → AS → Prop} {A' : AS} (he : Ent A A') (h : AWp P cx c Q A') : AWp P cx c Q A := fun ι a w hs => h ι a w (hs.ent he)

/-- Names that are not p's are free again; p's stand for r's. -/
structure Cut (cx : Cx) (p : Nat → Bool) (r : Nat → Nat) (A A' : AS) : Prop where
  env : ∀ t, A'.env t = .any ∨ (A.env t = (A'.env t).ren r ∧ (A'.env t).names p = true)
  box : ∀ b x, A'.box b = some x → A.box (r b) = some ⟨x.t, x.cs.map (AV.ren r)⟩ ∧ p b = true ∧ ∀ y, y ∈ x.cs → y.names p = true
  inj : ∀ b b' x x', A'.box b = some x → A'.box b' = some x' → r b = r b' → b = b'
  used : ∀ b, p b = true → A'.used b
  fix : ∀ b g, cx.F b = some g → p b = true ∧ r b = b

theorem Sat.cut {p : Nat → Bool} {r : Nat → Nat} {ι : Nat → Option Nat} {A' : AS} {a : Act} {w : World} (h : Sat cx ι A a w) (he : Cut cx p r A A') : Sat cx (cutTo p r ι) A' a w := by
  have hM : ∀ g, Mof cx (cutTo p r ι) A'.box g → Mof cx ι A.box g := by
    rintro g (h | ⟨b, x, h1, h2⟩)
    · exact .inl h
    · refine .inr ⟨r b, _, (he.box b x h1).1, ?_⟩
      simpa [cutTo, (he.box b x h1).2.1] using h2
  refine ⟨⟨h.h.wi, h.h.m0, fun b g hb => by simp [cutTo, (he.fix b g hb).1, (he.fix b g hb).2, h.h.fix b g hb], ?_, fun b x hx => he.used b (he.box b x hx).2.1, ?_, ?_⟩, h.size, h.defers, ?_⟩
  · intro b g hg
    simp only [cutTo] at hg
    split at hg
    · rename_i hlt; exact ⟨he.used b hlt, (h.h.dom _ g hg).2⟩
    · cases hg
  · intro b x hx
    obtain ⟨h0, hlt, hy⟩ := he.box b x hx
    rcases h.h.own _ _ h0 with ⟨h1, h2⟩ | ⟨g, h1, h2, h3, c, h4, h5, h6⟩
    · exact .inl ⟨by simpa using h1, by simp [cutTo, h2]⟩
    refine .inr ⟨g, by simp [cutTo, hlt, h1], h2, h3, c, h4, by simpa using h5, fun j v y hv hj => ?_⟩
    have := h6 j v (y.ren r) hv (by simp [hj])
    exact ⟨this.1, (this.2.less hM).cut rfl (hy y (List.mem_of_getElem? hj))⟩
  · intro b b' x x' g h1 h2 h3 h4
    obtain ⟨e1, e2, -⟩ := he.box b x h1
    obtain ⟨e3, e4, -⟩ := he.box b' x' h2
    simp only [cutTo, e2, e4, if_true] at h3 h4
    exact he.inj b b' x x' h1 h2 (h.h.inj _ _ _ _ g e1 e3 h3 h4)
  · intro t
    rcases he.env t with h1 | ⟨h1, h2⟩
    · rw [h1]; exact .any _
    · have := (h.env t).less hM
      exact this.cut h1 h2

theorem awp_cut {p : Nat → Bool} {r : Nat → Nat} {c : Code} {Q : Exit → AS → Prop} {A' : AS} (he : Cut cx p r A A') (h : AWp P cx c Q A') : AWp P cx c Q A := fun _ a w hs => h _ a w (hs.cut he)

/-- A loop: what is known at its head, for a value of σ; each round makes the measure less. -/
theorem awp_loop {σ : Type} {c : Code} {Q : Exit → AS → Prop} (I : σ → AS) (μ : σ → Nat) (p : Nat → Bool) (r : Nat → Nat) (s₀ : σ) (h₀ : Cut cx p r A (I s₀))
    (round : ∀ s, AWp P cx c (athen (fun A' => ∃ s' p' r', Cut cx p' r' A' (I s') ∧ μ s' < μ s) Q) (I s)) : AWp P cx (.loop c) Q A := by
  intro ι a w hs
  refine wpIn_loop_ghost (fun m a w => ∃ s ι, μ s = m ∧ Sat cx ι (I s) a w) (μ s₀) ⟨s₀, _, rfl, hs.cut h₀⟩ ?_
  rintro m a w ⟨s, ι, rfl, hs⟩
  refine wpIn_mono (round s ι a w hs) ?_
  rintro e a' w' ⟨ι', A', h1, h2⟩
  cases e with
  | normal =>
    obtain ⟨s', p', r', h3, h4⟩ := h2
    exact ⟨μ s', h4, s', _, rfl, h1.cut h3⟩
  | _ => exact ⟨ι', A', h1, h2⟩
end

end Go.Proofs.Ytjplhfmakghabaa.V
