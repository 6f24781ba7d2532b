/- Loops that append: a nil slice is an empty slice of the call's own. What is known between two steps of the code: own memory that nobody writes any more is plain data. -/
import Derived.Test.YtjplhfmakghabaaV19
import Derived.LoopNIn
set_option linter.unusedSimpArgs false
set_option linter.unusedVariables false
namespace Go.Proofs.Ytjplhfmakghabaa.V
open Go.RowKit
variable {P : Program} {cx : Cx} {c : Code} {Q : Exit → LS → Prop} {A : LS}

theorem nil_osl {ι : Nat → Option Nat} {M : Nat → Prop} {w : World} {v : Value} (b k off : Nat) (h : RepA ι M w v (.v (.slice none 0 0))) : RepA ι M w v (.osl b k off 0) := by
  rw [h.ofV]; exact .osl0 _ _ _ _

theorem sat_nil {ι : Nat → Option Nat} {a : Go.Act} {w : World} {env : Env} {box : Boxes} {n : Nat} (tm b k : Nat) (ty : TypeId) (h0 : eget env tm = .v (.slice none 0 0)) (hb : n ≤ b) (hs : Sat cx ι (mkAS env box n []) a w) :
    Sat cx ι (mkAS ((tm, .osl b k 0 0) :: env) ((b, some ⟨ty, []⟩) :: box) (b + 1) []) a w := by
  have hnu : ¬ (mkAS env box n []).used b := by simp [mkAS]; omega
  have hι : ι b = none := by
    cases h : ι b with
    | none => rfl
    | some g => exact absurd (hs.h.dom b g h).1 hnu
  have hM : ∀ g, Mof cx ι (bget ((b, some ⟨ty, []⟩) :: box)) g → Mof cx ι (bget box) g := by
    rintro g (h | ⟨i, x, h1, h2⟩)
    · exact .inl h
    · rw [bget_cons] at h1
      split at h1
      · rename_i he; subst he; rw [hι] at h2; cases h2
      · exact .inr ⟨i, x, h1, h2⟩
  refine ⟨⟨hs.h.wi, hs.h.m0, hs.h.fix, fun i g h => ⟨?_, (hs.h.dom i g h).2⟩, fun i x h => ?_, fun i x h => ?_, fun i i' x x' g h1 h2 h3 h4 => ?_⟩, hs.size, hs.defers, fun t => ?_⟩
  · have := (hs.h.dom i g h).1
    simp [mkAS] at this ⊢
    omega
  · have h : bget ((b, some ⟨ty, []⟩) :: box) i = some x := h
    rw [bget_cons] at h
    split at h
    · rename_i he; subst he; simp [mkAS]
    · have := hs.h.ub i x h
      simp [mkAS] at this ⊢
      omega
  · have h' : bget ((b, some ⟨ty, []⟩) :: box) i = some x := h
    rw [bget_cons] at h'
    by_cases he : i = b
    · subst he
      rw [if_pos rfl] at h'
      injection h' with h'
      subst h'
      exact .inl ⟨rfl, hι⟩
    · rw [if_neg he] at h'
      rcases hs.h.own i x h' with h1 | ⟨g, h1, h2, h3, c, h4, h5, h6⟩
      · exact .inl h1
      · exact .inr ⟨g, h1, h2, h3, c, h4, h5, fun j v y hv hy => ⟨(h6 j v y hv hy).1, (h6 j v y hv hy).2.less hM⟩⟩
  · have h1 : bget ((b, some ⟨ty, []⟩) :: box) i = some x := h1
    have h2 : bget ((b, some ⟨ty, []⟩) :: box) i' = some x' := h2
    rw [bget_cons] at h1 h2
    split at h1
    · rename_i he; subst he; rw [hι] at h3; cases h3
    · split at h2
      · rename_i he; subst he; rw [hι] at h4; cases h4
      · exact hs.h.inj i i' x x' g h1 h2 h3 h4
  · show RepA ι (Mof cx ι (bget ((b, some ⟨ty, []⟩) :: box))) w _ (eget ((tm, .osl b k 0 0) :: env) t)
    rw [eget_cons]
    have he := (hs.env t).less hM
    split
    · rename_i ht
      subst ht
      have he : RepA ι (Mof cx ι (bget ((b, some ⟨ty, []⟩) :: box))) w _ (eget env t) := he
      rw [h0] at he
      exact nil_osl b k 0 he
    · exact he

/-- At a loop's head a nil slice may be taken for an empty slice of the call's own, of a new name. -/
theorem loop_nil (tm b k : Nat) (ty : TypeId) (h0 : eget A.env tm = .v (.slice none 0 0)) (hb : A.next ≤ b) (h : LoopW P cx c Q ⟨(tm, .osl b k 0 0) :: A.env, (b, some ⟨ty, []⟩) :: A.box, b + 1⟩) : LoopW P cx c Q A :=
  fun ι a w hs => h ι a w (sat_nil tm b k ty h0 hb hs)
/-- A loop of a few rounds, round by round. -/
def Rounds (P : Program) (cx : Cx) (c : Code) (Q : Exit → LS → Prop) : Nat → LS → Prop
  | 0, _ => False
  | m + 1, A => W P cx c (lthen (Rounds P cx c Q m) Q) A

theorem rounds_s {P : Program} {cx : Cx} {c : Code} {Q : Exit → LS → Prop} {m : Nat} {A : LS} (h : W P cx c (lthen (Rounds P cx c Q m) Q) A) : Rounds P cx c Q (m + 1) A := h

theorem loop_rounds {P : Program} {cx : Cx} {c : Code} {Q : Exit → LS → Prop} {A : LS} (hm : P.follows .mixedOrders = true) (m : Nat) (hok : bodyOK cx.N c = true) (h : Rounds P cx c Q m A) : LoopW P cx c Q A := by
  intro ι a w hs
  refine wpIn_loop_rounds m ?_
  have key : ∀ (m : Nat) (A : LS) (ι : Nat → Option Nat) (a : Go.Act) (w : World), Rounds P cx c Q m A → Sat cx ι A.toAS a w → Code.roundsIn (fen cx.R) 9 P c (fun e a' w' => ∃ ι' A', Sat cx ι' A' a' w' ∧ lift Q e A') m a w := by
    intro m
    induction m with
    | zero => intro A ι a w h; exact h.elim
    | succ m ih =>
      intro A ι a w h hs
      refine wpIn_mono (W_sound hm c _ A hok h ι a w hs) ?_
      rintro e a' w' ⟨ι', A', h1, L, rfl, hL⟩
      cases e with
      | normal => exact ih L ι' a' w' hL h1
      | _ => exact ⟨ι', L.toAS, h1, L, rfl, hL⟩
  exact key m A ι a w h hs

end Go.Proofs.Ytjplhfmakghabaa.V
namespace Go.Proofs.Ytjplhfmakghabaa.V
open Go.RowKit
variable {P : Program} {cx : Cx} {c a b : Code} {Q : Exit → LS → Prop} {A : LS}

theorem code_w (hm : P.follows .mixedOrders = true) (hok : bodyOK cx.N c = true) (h : W P cx c Q A) : CodeW P cx c Q A := W_sound hm c Q A hok h

theorem code_seq (hm : P.follows .mixedOrders = true) (hok : bodyOK cx.N a = true) (h : W P cx a (lthen (fun A => CodeW P cx b Q A) Q) A) : CodeW P cx (.seq a b) Q A := by
  refine awp_seq ((W_sound hm a _ A hok h).mono ?_)
  rintro e A' ⟨L, rfl, hL⟩
  cases e with
  | normal => exact hL
  | _ => exact ⟨L, rfl, hL⟩

theorem fun_C {f : FuncId} {fn : Func} {c : Code} {args : List AV} {x : AV} (hf : P.funcs[f]? = some fn) (hb : fn.body = some c) (hn : args.length ≤ fn.ntmps)
    (h : ∀ cx : Cx, cx.N = fn.ntmps → cx.R = none → cx.F = (fun _ => none) → args.all AV.lens = true → CodeW P cx c (LEnds P fn.results x) ⟨argsL args 0, [], 0⟩) : Fun P f args x := by
  refine fun_of hf hb hn fun cx hN hR hF hL => ?_
  have := h cx hN hR hF hL
  have he : (⟨argsEnv args, fun _ => none, fun _ => False⟩ : AS) = LS.toAS ⟨argsL args 0, [], 0⟩ := by
    unfold LS.toAS mkAS
    congr 1
    · funext t
      rw [eget_argsL]
      simp [argsEnv]
    · funext b
      simp
  rw [he]
  refine AWp.mono this ?_
  rintro e A ⟨L, rfl, hL⟩
  cases e with
  | normal => exact LEnds_sound hL
  | ret => exact LEnds_sound hL
  | _ => exact hL.elim

/-! ### Plain from here on -/

def fzY (pb : Boxes) (y x : AV) : Prop := y = x ∨ fz pb 6 y x
def fzE (pb : Boxes) (env : Env) : Env → Prop
  | [] => True
  | (t, x) :: l => fzY pb (eget env t) x ∧ fzE pb env l
def fzL (pb : Boxes) : List AV → List AV → Prop
  | [], [] => True
  | y :: l, x :: m => fzY pb y x ∧ fzL pb l m
  | _, _ => False
def fzB (ns : List Nat) (pb box : Boxes) : Boxes → Prop
  | [] => True
  | (b, some x) :: l => (ns.contains b = false ∧ match bget box b with | some y => y.t = x.t ∧ fzL pb y.cs x.cs | none => False) ∧ fzB ns pb box l
  | (_, none) :: l => fzB ns pb box l

theorem fzL_spec {pb : Boxes} : ∀ {l m : List AV}, fzL pb l m → l.length = m.length ∧ ∀ (i : Nat) (x y : AV), l[i]? = some x → m[i]? = some y → fzY pb x y
  | [], [], _ => ⟨rfl, by simp⟩
  | x :: l, y :: m, h => by
    obtain ⟨h1, h2⟩ := fzL_spec h.2
    refine ⟨by simp [h1], fun i a b ha hb => ?_⟩
    rcases i with _ | i
    · simp at ha hb; subst ha hb; exact h.1
    · exact h2 i a b (by simpa using ha) (by simpa using hb)

theorem fzE_spec {pb : Boxes} {env : Env} : ∀ {l : Env}, fzE pb env l → ∀ t, eget l t = .any ∨ fzY pb (eget env t) (eget l t)
  | [], _, t => .inl rfl
  | (s, x) :: l, h, t => by
    simp only [eget]
    split
    · rename_i ht; subst ht; exact .inr h.1
    · exact fzE_spec h.2 t

theorem fzB_spec {ns : List Nat} {pb box : Boxes} : ∀ {l : Boxes}, fzB ns pb box l → ∀ b x, bget l b = some x → ns.contains b = false ∧ ∃ y, bget box b = some y ∧ y.t = x.t ∧ fzL pb y.cs x.cs
  | [], _, b, x, h => by simp [bget, bput] at h
  | (c, some z) :: l, h, b, x, hx => by
    rw [bget_cons] at hx
    split at hx
    · rename_i hb
      subst hb
      injection hx with hx
      subst hx
      refine ⟨h.1.1, ?_⟩
      have h2 := h.1.2
      split at h2
      · rename_i y hy; exact ⟨y, hy, h2⟩
      · exact h2.elim
    · exact fzB_spec h.2 b x hx
  | (c, none) :: l, h, b, x, hx => by
    rw [bget_cons] at hx
    split at hx
    · cases hx
    · exact fzB_spec (l := l) h b x hx

theorem mem_pickB {box : Boxes} {b : Nat} {r : Option Bx} : ∀ {ns : List Nat}, (b, r) ∈ pickB box ns → b ∈ ns
  | [], h => by simp [pickB] at h
  | c :: l, h => by
    rcases List.mem_cons.1 h with h | h
    · injection h with h1 h2; subst h1; simp
    · exact List.mem_cons_of_mem _ (mem_pickB h)

theorem mem_liveOf {pb : Boxes} {b : Nat} {x : Bx} : ∀ {l : Boxes}, (b, x) ∈ liveOf pb l → ∃ r, (b, r) ∈ l
  | [], h => by simp [liveOf] at h
  | (c, r) :: l, h => by
    unfold liveOf at h
    split at h
    · rcases List.mem_cons.1 h with h | h
      · injection h with h1 h2; subst h1; exact ⟨r, by simp⟩
      · obtain ⟨r', h'⟩ := mem_liveOf h; exact ⟨r', by simp [h']⟩
    · obtain ⟨r', h'⟩ := mem_liveOf h; exact ⟨r', by simp [h']⟩

theorem sat_frz {ι : Nat → Option Nat} {a : Go.Act} {w : World} {env env' : Env} {box box' pb : Boxes} {n : Nat} (ns : List Nat) (hp : pickB box ns = pb) (he : fzE pb env env') (hb : fzB ns pb box box') (hs : Sat cx ι (mkAS env box n []) a w) : Sat cx ι (mkAS env' box' n []) a w := by
  subst hp
  have hfp : ∀ b x, (b, x) ∈ liveOf (pickB box ns) (pickB box ns) → (mkAS env box n []).box b = some x := fun b x h => bget_pickB (liveOf_spec h)
  have hns : ∀ b x, (b, x) ∈ liveOf (pickB box ns) (pickB box ns) → ns.contains b = true := fun b x h => by
    obtain ⟨r, hr⟩ := mem_liveOf h
    simpa using mem_pickB hr
  have hkeep : ∀ b x, bget box' b = some x → ∃ y, bput (bget box) (kills (liveOf (pickB box ns) (pickB box ns))) b = some y := fun b x h => by
    obtain ⟨h1, y, h2, -⟩ := fzB_spec hb b x h
    refine ⟨y, ?_⟩
    have key : ∀ fp : List (Nat × Bx), (∀ x, (b, x) ∉ fp) → bput (bget box) (kills fp) b = bget box b := by
      intro fp
      induction fp with
      | nil => intro _; rfl
      | cons p fp ih =>
        intro hq
        simp only [kills, List.map_cons, bput]
        rw [if_neg (by rintro rfl; exact hq p.2 (by simp))]
        exact ih fun x hx => hq x (by simp [hx])
    rw [key _ fun x hx => by have := hns b x hx; rw [h1] at this; cases this]
    exact h2
  have hM : ∀ g, Mof cx ι (bget box') g → Mof cx ι (bput (bget box) (kills (liveOf (pickB box ns) (pickB box ns)))) g := by
    rintro g (h | ⟨i, x, h1, h2⟩)
    · exact .inl h
    · obtain ⟨y, hy⟩ := hkeep i x h1
      exact .inr ⟨i, y, hy, h2⟩
  have hM2 : ∀ g, Mof cx ι (bget box') g → Mof cx ι (bget box) g := by
    rintro g (h | ⟨i, x, h1, h2⟩)
    · exact .inl h
    · obtain ⟨-, y, hy, -⟩ := fzB_spec hb i x h1
      exact .inr ⟨i, y, hy, h2⟩
  have hval : ∀ (v : Value) (y x : AV), fzY (pickB box ns) y x → RepA ι (Mof cx ι (bget box)) w v y → RepA ι (Mof cx ι (bget box')) w v x := by
    intro v y x hf hv
    rcases hf with rfl | hf
    · exact hv.less hM2
    · have h1 := frz_rep hs.h hfp (fz_sound _ hf) hv
      exact .d (h1.keep (fun g _ h => hM g h) (Nat.le_refl _) (fun _ _ _ => rfl))
  refine ⟨⟨hs.h.wi, hs.h.m0, hs.h.fix, hs.h.dom, fun i x h => ?_, fun i x h => ?_, fun i i' x x' g h1 h2 h3 h4 => ?_⟩, hs.size, hs.defers, fun t => ?_⟩
  · obtain ⟨-, y, hy, -⟩ := fzB_spec hb i x h
    exact hs.h.ub i y hy
  · obtain ⟨-, y, hy, hty, hcs⟩ := fzB_spec hb i x h
    obtain ⟨hl, hc⟩ := fzL_spec hcs
    rcases hs.h.own i y hy with ⟨h1, h2⟩ | ⟨g, h1, h2, h3, cc, h4, h5, h6⟩
    · exact .inl ⟨List.eq_nil_of_length_eq_zero (by rw [← hl, h1]; rfl), h2⟩
    · refine .inr ⟨g, h1, h2, h3, cc, by rw [← hty]; exact h4, by rw [← hl]; exact h5, fun j v z hv hz => ?_⟩
      have hj : j < y.cs.length := by rw [hl]; exact (List.getElem?_eq_some_iff.1 hz).1
      have := h6 j v _ hv (List.getElem?_eq_getElem hj)
      exact ⟨this.1, hval v _ z (hc j _ z (List.getElem?_eq_getElem hj) hz) this.2⟩
  · obtain ⟨-, y, hy, -⟩ := fzB_spec hb i x h1
    obtain ⟨-, y', hy', -⟩ := fzB_spec hb i' x' h2
    exact hs.h.inj i i' y y' g hy hy' h3 h4
  · rcases fzE_spec he t with h | h
    · show RepA ι _ w _ (eget env' t)
      rw [h]; exact .any _
    · exact hval _ _ _ h (hs.env t)

/-- From here on the boxes ns are plain data. -/
theorem code_frz {env env' : Env} {box box' pb : Boxes} {n : Nat} (ns : List Nat) (env' : Env) (box' : Boxes) (hp : pickB box ns = pb) (he : fzE pb env env') (hb : fzB ns pb box box') (h : CodeW P cx c Q ⟨env', box', n⟩) : CodeW P cx c Q ⟨env, box, n⟩ :=
  fun ι a w hs => h ι a w (sat_frz ns hp he hb hs)
theorem loop_frz {env : Env} {box pb : Boxes} {n : Nat} (ns : List Nat) (env' : Env) (box' : Boxes) (hp : pickB box ns = pb) (he : fzE pb env env') (hb : fzB ns pb box box') (h : LoopW P cx c Q ⟨env', box', n⟩) : LoopW P cx c Q ⟨env, box, n⟩ :=
  fun ι a w hs => h ι a w (sat_frz ns hp he hb hs)

attribute [go_sem] fzY fzE fzL fzB List.contains_cons List.contains_nil
end Go.Proofs.Ytjplhfmakghabaa.V
