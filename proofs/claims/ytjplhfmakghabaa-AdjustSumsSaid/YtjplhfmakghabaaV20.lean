/- Loops that append: a nil slice is an empty slice of the call's own. -/
import Derived.Test.YtjplhfmakghabaaV19
import Derived.LoopNIn
set_option linter.unusedSimpArgs false
set_option linter.unusedVariables false
namespace Go.Proofs.Ytjplhfmakghabaa.V
open Go.RowKit
variable {P : Program} {cx : Cx} {c : Code} {Q : Exit → LS → Prop} {A : LS}

theorem nil_osl {ι : Nat → Option Nat} {M : Nat → Prop} {w : World} {v : Value} (b k off : Nat) (h : RepA ι M w v (.v (.slice none 0 0))) : RepA ι M w v (.osl b k off 0) := by
  rw [h.ofV]; exact .osl0 _ _ _ _

theorem sat_nil {ι : Nat → Option Nat} {a : Go.Act} {w : World} {env : Env} {box : Boxes} {n : Nat} (tm b k : Nat) (ty : TypeId) (h0 : eget env tm = .v (.slice none 0 0)) (hb : n ≤ b) (hs : Sat cx ι (mkAS env box n []) a w) :
    Sat cx ι (mkAS ((tm, .osl b k 0 0) :: env) ((b, some ⟨ty, []⟩) :: box) (b + 1) []) a w := by
  have hnu : ¬ (mkAS env box n []).used b := by simp [mkAS]; omega
  have hι : ι b = none := by
    cases h : ι b with
    | none => rfl
    | some g => exact absurd (hs.h.dom b g h).1 hnu
  have hM : ∀ g, Mof cx ι (bget ((b, some ⟨ty, []⟩) :: box)) g → Mof cx ι (bget box) g := by
    rintro g (h | ⟨i, x, h1, h2⟩)
    · exact .inl h
    · rw [bget_cons] at h1
      split at h1
      · rename_i he; subst he; rw [hι] at h2; cases h2
      · exact .inr ⟨i, x, h1, h2⟩
  refine ⟨⟨hs.h.wi, hs.h.m0, hs.h.fix, fun i g h => ⟨?_, (hs.h.dom i g h).2⟩, fun i x h => ?_, fun i x h => ?_, fun i i' x x' g h1 h2 h3 h4 => ?_⟩, hs.size, hs.defers, fun t => ?_⟩
  · have := (hs.h.dom i g h).1
    simp [mkAS] at this ⊢
    omega
  · have h : bget ((b, some ⟨ty, []⟩) :: box) i = some x := h
    rw [bget_cons] at h
    split at h
    · rename_i he; subst he; simp [mkAS]
    · have := hs.h.ub i x h
      simp [mkAS] at this ⊢
      omega
  · have h' : bget ((b, some ⟨ty, []⟩) :: box) i = some x := h
    rw [bget_cons] at h'
    by_cases he : i = b
    · subst he
      rw [if_pos rfl] at h'
      injection h' with h'
      subst h'
      exact .inl ⟨rfl, hι⟩
    · rw [if_neg he] at h'
      rcases hs.h.own i x h' with h1 | ⟨g, h1, h2, h3, c, h4, h5, h6⟩
      · exact .inl h1
      · exact .inr ⟨g, h1, h2, h3, c, h4, h5, fun j v y hv hy => ⟨(h6 j v y hv hy).1, (h6 j v y hv hy).2.less hM⟩⟩
  · have h1 : bget ((b, some ⟨ty, []⟩) :: box) i = some x := h1
    have h2 : bget ((b, some ⟨ty, []⟩) :: box) i' = some x' := h2
    rw [bget_cons] at h1 h2
    split at h1
    · rename_i he; subst he; rw [hι] at h3; cases h3
    · split at h2
      · rename_i he; subst he; rw [hι] at h4; cases h4
      · exact hs.h.inj i i' x x' g h1 h2 h3 h4
  · show RepA ι (Mof cx ι (bget ((b, some ⟨ty, []⟩) :: box))) w _ (eget ((tm, .osl b k 0 0) :: env) t)
    rw [eget_cons]
    have he := (hs.env t).less hM
    split
    · rename_i ht
      subst ht
      have he : RepA ι (Mof cx ι (bget ((b, some ⟨ty, []⟩) :: box))) w _ (eget env t) := he
      rw [h0] at he
      exact nil_osl b k 0 he
    · exact he

/-- At a loop's head a nil slice may be taken for an empty slice of the call's own, of a new name. -/
theorem loop_nil (tm b k : Nat) (ty : TypeId) (h0 : eget A.env tm = .v (.slice none 0 0)) (hb : A.next ≤ b) (h : LoopW P cx c Q ⟨(tm, .osl b k 0 0) :: A.env, (b, some ⟨ty, []⟩) :: A.box, b + 1⟩) : LoopW P cx c Q A :=
  fun ι a w hs => h ι a w (sat_nil tm b k ty h0 hb hs)
/-- A loop of a few rounds, round by round. -/
def Rounds (P : Program) (cx : Cx) (c : Code) (Q : Exit → LS → Prop) : Nat → LS → Prop
  | 0, _ => False
  | m + 1, A => W P cx c (lthen (Rounds P cx c Q m) Q) A

theorem rounds_s {P : Program} {cx : Cx} {c : Code} {Q : Exit → LS → Prop} {m : Nat} {A : LS} (h : W P cx c (lthen (Rounds P cx c Q m) Q) A) : Rounds P cx c Q (m + 1) A := h

theorem loop_rounds {P : Program} {cx : Cx} {c : Code} {Q : Exit → LS → Prop} {A : LS} (hm : P.follows .mixedOrders = true) (m : Nat) (hok : bodyOK cx.N c = true) (h : Rounds P cx c Q m A) : LoopW P cx c Q A := by
  intro ι a w hs
  refine wpIn_loop_rounds m ?_
  have key : ∀ (m : Nat) (A : LS) (ι : Nat → Option Nat) (a : Go.Act) (w : World), Rounds P cx c Q m A → Sat cx ι A.toAS a w → Code.roundsIn (fen cx.R) 9 P c (fun e a' w' => ∃ ι' A', Sat cx ι' A' a' w' ∧ lift Q e A') m a w := by
    intro m
    induction m with
    | zero => intro A ι a w h; exact h.elim
    | succ m ih =>
      intro A ι a w h hs
      refine wpIn_mono (W_sound hm c _ A hok h ι a w hs) ?_
      rintro e a' w' ⟨ι', A', h1, L, rfl, hL⟩
      cases e with
      | normal => exact ih L ι' a' w' hL h1
      | _ => exact ⟨ι', L.toAS, h1, L, rfl, hL⟩
  exact key m A ι a w h hs

end Go.Proofs.Ytjplhfmakghabaa.V
