/- Contracts with boxes, reckoned. -/
import Derived.Test.YtjplhfmakghabaaVB
set_option linter.unusedSimpArgs false
set_option linter.unusedVariables false
namespace Go.Proofs.Ytjplhfmakghabaa.V
open Go.RowKit

section
variable {P : Program} {cx : Cx}

/-- The boxes that are given up: all but these. -/
def restB (tb keep : Boxes) : Boxes := (keep.map fun p => (p.1, none)) ++ tb

def fzX (box : Boxes) (y x : AV) : Prop := y = x ∨ fzA box y x

/-- What the boxes must hold at the end. -/
def endB (box : Boxes) : Boxes → Prop
  | [] => True
  | (b, some y) :: l => bget box b = some y ∧ endB box l
  | (_, none) :: l => endB box l

def keptB (tb : List (Nat × Option Bx)) (fp : List (Nat × Bx)) : Boxes := tb ++ lives (fp.filter fun p => !inl tb p.1)

def LEndsB (P : Program) (rs : Array ResultVar) (fp : List (Nat × Bx)) (x : AV) (tb : List (Nat × Option Bx)) : Exit → LS → Prop
  | .normal, A | .ret, A => (endB A.box (keptB tb fp) ∧ okT fp tb = true ∧ x.names (fun b => inl fp b || inl tb b) = true) ∧ match rs.toList, x with
    | [], .tup [] => True
    | [r], x => resW P A.env A.box r fun y => fzX (restB A.box (tb ++ lives fp)) y x
    | [r, s], .tup [x, x'] => resW P A.env A.box r fun y => fzX (restB A.box (tb ++ lives fp)) y x ∧ resW P A.env A.box s fun y => fzX (restB A.box (tb ++ lives fp)) y x'
    | [r, s, t], .tup [x, x', x''] => resW P A.env A.box r fun y => fzX (restB A.box (tb ++ lives fp)) y x ∧ resW P A.env A.box s fun y => fzX (restB A.box (tb ++ lives fp)) y x' ∧ resW P A.env A.box t fun y => fzX (restB A.box (tb ++ lives fp)) y x''
    | _, _ => False
  | _, _ => False

theorem endB_spec {box : Boxes} {b : Nat} {y : Bx} : ∀ {l : Boxes}, endB box l → bget l b = some y → bget box b = some y
  | [], _, h => by simp [bget, bput] at h
  | (c, some z) :: l, h, hy => by
    simp only [bget, bput] at hy
    by_cases hb : b = c
    · subst hb; simp at hy; subst hy; exact h.1
    · rw [if_neg hb] at hy; exact endB_spec h.2 hy
  | (c, none) :: l, h, hy => by
    simp only [bget, bput] at hy
    by_cases hb : b = c
    · subst hb; simp at hy
    · rw [if_neg hb] at hy; exact endB_spec (l := l) h hy

theorem bget_filter {tb : List (Nat × Option Bx)} {b : Nat} (h : inl tb b = false) : ∀ {fp : List (Nat × Bx)}, bget (lives (fp.filter fun p => !inl tb p.1)) b = bget (lives fp) b
  | [] => rfl
  | p :: l => by
    by_cases hb : b = p.1
    · subst hb
      rw [List.filter_cons_of_pos (by simp [h])]
      simp [lives, bget, bput]
    · by_cases hp : inl tb p.1 = true
      · rw [List.filter_cons_of_neg (by simp [hp])]
        have := bget_filter h (fp := l)
        simp only [lives, List.map_cons, bget, bput, if_neg hb] at this ⊢
        exact this
      · rw [List.filter_cons_of_pos (by simp [hp])]
        have := bget_filter h (fp := l)
        simp only [lives, List.map_cons, bget, bput, if_neg hb] at this ⊢
        exact this

theorem restB_live {box keep : Boxes} {b : Nat} {x : Bx} (h : bget (restB box keep) b = some x) : bget box b = some x ∧ inl keep b = false := by
  unfold restB at h
  rw [bget_app] at h
  have key : ∀ keep : Boxes, inl (keep.map fun p => (p.1, (none : Option Bx))) b = inl keep b ∧ bget (keep.map fun p => (p.1, (none : Option Bx))) b = none := by
    intro keep
    induction keep with
    | nil => exact ⟨rfl, rfl⟩
    | cons p l ih =>
      refine ⟨by simp only [inl, List.map_cons, List.any_cons] at ih ⊢; rw [ih.1], ?_⟩
      simp only [List.map_cons, bget, bput]
      split
      · rfl
      · exact ih.2
  rw [(key keep).1, (key keep).2] at h
  split at h
  · cases h
  · rename_i hb; exact ⟨h, by simpa using hb⟩

theorem LEndsB_sound {rs : Array ResultVar} {fp : List (Nat × Bx)} {x : AV} {tb : List (Nat × Option Bx)} {A : LS} (h : LEndsB P rs fp x tb .ret A) : ∃ fz, RessB P A.toAS fz rs x ∧ (∀ b x, (b, x) ∈ fz → A.toAS.box b = some x ∧ inl (tb ++ lives fp) b = false) ∧
    (∀ b y, bget (tb ++ lives fp) b = some y → A.toAS.box b = some y) ∧ okT fp tb = true ∧ x.names (fun b => inl fp b || inl tb b) = true := by
  obtain ⟨⟨h1, h2, h3⟩, h⟩ := h
  have hfz : ∀ b x, (b, x) ∈ liveOf (restB A.box (tb ++ lives fp)) (restB A.box (tb ++ lives fp)) → A.toAS.box b = some x ∧ inl (tb ++ lives fp) b = false := fun b x h => restB_live (liveOf_spec h)
  have hbx : ∀ b y, bget (tb ++ lives fp) b = some y → A.toAS.box b = some y := fun b y hb => by
    refine endB_spec h1 ?_
    unfold keptB
    rw [bget_app] at hb ⊢
    split
    · rename_i ht; rw [if_pos ht] at hb; exact hb
    · rename_i ht; rw [if_neg ht] at hb; rw [bget_filter (by simpa using ht)]; exact hb
  have hX : ∀ y x, fzX (restB A.box (tb ++ lives fp)) y x → FrzX (liveOf (restB A.box (tb ++ lives fp)) (restB A.box (tb ++ lives fp))) y x := fun y x h => h.imp id fzA_sound
  have hrs : ∀ l, rs.toList = l → rs = l.toArray := fun l h => by rw [← h]
  refine ⟨_, ?_, hfz, hbx, h2, h3⟩
  split at h
  · rename_i e1; rw [hrs _ e1]; exact .none
  · rename_i r x e1
    rw [hrs _ e1]
    obtain ⟨y, k1, k2⟩ := resW_sound (n := A.next) h
    exact .one k1 (hX _ _ k2)
  · rename_i r s x x' e1
    rw [hrs _ e1]
    obtain ⟨y, k1, k2, k3⟩ := resW_sound (n := A.next) h
    obtain ⟨y', k4, k5⟩ := resW_sound (n := A.next) k3
    exact .two k1 k4 (hX _ _ k2) (hX _ _ k5)
  · rename_i r s t x x' x'' e1
    rw [hrs _ e1]
    obtain ⟨y, k1, k2, k3⟩ := resW_sound (n := A.next) h
    obtain ⟨y', k4, k5, k6⟩ := resW_sound (n := A.next) k3
    obtain ⟨y'', k7, k8⟩ := resW_sound (n := A.next) k6
    exact .three k1 k4 k7 (hX _ _ k2) (hX _ _ k5) (hX _ _ k8)
  · exact h.elim

theorem fun_WB {f : FuncId} {fn : Func} {c : Code} {fp : List (Nat × Bx)} {args : List AV} {x : AV} {tb : List (Nat × Option Bx)} (n : Nat) (hm : P.follows .mixedOrders = true) (hf : P.funcs[f]? = some fn) (hb : fn.body = some c) (hn : args.length ≤ fn.ntmps) (hok : bodyOK fn.ntmps c = true)
    (hfp : (fp.all (fun p => !p.2.cs.isEmpty) && okF fp && fp.all (fun p => decide (p.1 < n))) = true)
    (h : ∀ cx : Cx, cx.N = fn.ntmps → cx.R = none → (∀ b g, cx.F b = some g → inl fp b = true) → (args.all AV.lens = true ∧ ∀ b x, bget (lives fp) b = some x → x.cs.all AV.lens = true) → W P cx c (LEndsB P fn.results fp x tb) ⟨argsL args 0, lives fp, n⟩) : FunB P f fp args x tb := by
  simp only [Bool.and_eq_true] at hfp
  refine funB_of hf hb hn hfp.1.1 hfp.1.2 n hfp.2 fun cx hN hR hF hL => ?_
  have := W_sound (cx := cx) hm c _ _ (by rw [hN]; exact hok) (h cx hN hR hF hL)
  have he : (⟨argsEnv args, bget (lives fp), fun b => b < n⟩ : AS) = LS.toAS ⟨argsL args 0, lives fp, n⟩ := by
    unfold LS.toAS mkAS
    congr 1
    · funext t
      rw [eget_argsL]
      simp [argsEnv]
    · funext b
      simp
  rw [he]
  refine this.mono ?_
  rintro e A ⟨L, rfl, hL⟩
  cases e with
  | normal => exact LEndsB_sound hL
  | ret => exact LEndsB_sound hL
  | _ => exact hL.elim

/-- Names, by a list. -/
def look (l : List Nat) (b : Nat) : Nat := l.getD b b

def boxesOK (box : Boxes) : List (Nat × Bx) → Prop
  | [] => True
  | (b, x) :: l => bget box b = some x ∧ boxesOK box l
def freshOK (nm : Nat) (fp : List (Nat × Bx)) (tb : List (Nat × Option Bx)) : Prop := ∀ p, p ∈ tb → p.2.isSome = true → inl fp p.1 = true ∨ (nm ≤ p.1 ∧ p.1 < nm + 8)

theorem boxesOK_spec {box : Boxes} : ∀ {l : List (Nat × Bx)}, boxesOK box l → ∀ b x, (b, x) ∈ l → bget box b = some x
  | [], _, b, x, h => by simp at h
  | (c, y) :: l, h, b, x, hx => by
    rcases List.mem_cons.1 hx with e | hx
    · injection e with e1 e2; subst e1 e2; exact h.1
    · exact boxesOK_spec h.2 b x hx

/-- The call of a function that is known by its contract with boxes; r: the caller's names for the contract's. -/
theorem callBW {env : Env} {box : Boxes} {nm : Nat} {f : FuncId} {l args : List AV} {o : Oper} {K : OpS → Prop} {fp : List (Nat × Bx)} {tb : List (Nat × Option Bx)} {x : AV} {hyp : Prop} (r : List Nat) (hc : Callable P f) (hF : FunB P f fp args x tb)
    (hl : l = args.map (AV.ren (look r))) (hs : (args.all (AV.names (inl fp)) && okF fp && okT fp tb && x.names (fun b => inl fp b || inl tb b) && injN (look r) (nmsF fp ++ nmsT tb)) = true) (hfp : boxesOK box (renF (look r) fp)) (hfr : freshOK nm (renF (look r) fp) (renT (look r) tb))
    (hK : K ⟨renF (look r) fp, x.ren (look r), renT (look r) tb⟩) : CallW P cx hyp env box nm f l o K := by
  simp only [Bool.and_eq_true] at hs
  obtain ⟨⟨⟨⟨h1, h2⟩, h3⟩, h4⟩, h5⟩ := hs
  refine fun ho => ⟨_, fun _ => y_callB (look r) ho hc hF hl h1 h2 h3 h4 h5, boxesOK_spec hfp, fun b y hb => ?_, hK⟩
  rcases hfr (b, some y) hb rfl with h | h
  · exact .inl (inl_iff.1 h)
  · exact .inr h
end

end Go.Proofs.Ytjplhfmakghabaa.V
