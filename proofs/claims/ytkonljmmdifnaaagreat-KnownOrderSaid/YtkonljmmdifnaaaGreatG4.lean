/- The reckoning of a body, and that it is enough. Contracts of functions that read, write and hand back the caller's boxes. Contracts with boxes, reckoned. -/
import Derived.Test.YtkonljmmdifnaaaGreatG3
set_option linter.unusedSimpArgs false
set_option linter.unusedVariables false
namespace Go.Proofs.YtkonljmmdifnaaaGreat.V
open Go.RowKit

structure LS where
  env : Env
  box : Boxes
  next : Nat

abbrev LS.toAS (A : LS) : AS := mkAS A.env A.box A.next []

def NapOK (ops : Array Oper) (acc : List (List Nat × List Nat)) : Prop := napAll .any ops.toList 0 acc.reverse = true

/-- A value that is now known. -/
def esetB (env : Env) (y : Operand) (b : Bool) : Env := match y with | .tmp t => (t, .v (.bool b)) :: env | _ => env

/-- The condition of a guard. -/
def guardOf (env : Env) (want : Bool) (d : Tmp) : Option Bool :=
  match eget env d with
  | .v (.bool b) => some (cond want b (!b))
  | .iff c (.v (.bool b)) => some (c && cond want b (!b))
  | _ => none

def regW (P : Program) (cx : Cx) (ops : Array Oper) (draw : Bool) (n0 : Nat) : List Oper → Nat → Env → Boxes → List Nat → List (List Nat × List Nat) → (Env → Boxes → Prop) → Prop
  | [], _, env, box, _, acc, K => (draw = true → NapOK ops acc) ∧ K env box
  | o :: rest, i, env, box, u, acc, K =>
    match o.guard with
    | none => opW P cx True env box (n0 + 8 * i) o fun S => (S.tb.all (fun p => decide (p.1 < n0 + 8 * i + 8)) = true) ∧ regW P cx ops draw n0 rest (i + 1) (econs o.dst S.x env) (S.tb ++ box) (S.tb.map (·.1) ++ u) (S.nm :: acc) K
    | some (j, want) => match dstOf ops j with
      | some d => match guardOf env want d with
        | some g => (g = false ∧ regW P cx ops draw n0 rest (i + 1) (econs o.dst (.iff false (.v (.bool false))) env) box u (([], []) :: acc) K) ∨ opW P cx (g = true) env box (n0 + 8 * i) o fun S => (S.tb.all (fun p => decide (p.1 < n0 + 8 * i + 8)) = true) ∧ match S.tb.all (fun p => p.2.isNone) with
          | true => regW P cx ops draw n0 rest (i + 1) (econs o.dst (.iff g S.x) env) (S.tb ++ box) (S.tb.map (·.1) ++ u) (S.nm :: acc) K
          | false => (g = true → regW P cx ops draw n0 rest (i + 1) (econs o.dst S.x env) (S.tb ++ box) (S.tb.map (·.1) ++ u) (S.nm :: acc) K) ∧
            (g = false → regW P cx ops draw n0 rest (i + 1) (econs o.dst (.iff false S.x) env) box u ((S.reads, []) :: acc) K)
        | none => False
      | none => False

/-! The same, step by step. -/
section
variable (P : Program) (cx : Cx) (ops : Array Oper) (draw : Bool) (n0 : Nat) (rest : List Oper) (i : Nat) (env : Env) (box : Boxes) (u : List Nat) (acc : List (List Nat × List Nat)) (K : Env → Boxes → Prop)

def regK (dst : Option Tmp) (S : OpS) : Prop := (S.tb.all (fun p => decide (p.1 < n0 + 8 * i + 8)) = true) ∧ regW P cx ops draw n0 rest (i + 1) (econs dst S.x env) (S.tb ++ box) (S.tb.map (·.1) ++ u) (S.nm :: acc) K

def regG (g : Bool) (dst : Option Tmp) (S : OpS) : Prop := (S.tb.all (fun p => decide (p.1 < n0 + 8 * i + 8)) = true) ∧ match S.tb.all (fun p => p.2.isNone) with
  | true => regW P cx ops draw n0 rest (i + 1) (econs dst (.iff g S.x) env) (S.tb ++ box) (S.tb.map (·.1) ++ u) (S.nm :: acc) K
  | false => (g = true → regW P cx ops draw n0 rest (i + 1) (econs dst S.x env) (S.tb ++ box) (S.tb.map (·.1) ++ u) (S.nm :: acc) K) ∧
    (g = false → regW P cx ops draw n0 rest (i + 1) (econs dst (.iff false S.x) env) box u ((S.reads, []) :: acc) K)
end

def isDefer : Op → Bool
  | .defer _ => true
  | _ => false

def dstOK (n : Nat) (ops : Array Oper) : Bool := ops.all fun o => (match o.dst with | some d => decide (d < n) | none => true) && !isDefer o.op

/-- What can be asked of a body once and for all. -/
def bodyOK (n : Nat) : Code → Bool
  | .region _ ops draw => dstOK n ops && (!draw || Region.lexB .any ops)
  | .seq a b => bodyOK n a && bodyOK n b
  | .cond _ a b => bodyOK n a && bodyOK n b
  | .block _ a => bodyOK n a
  | .loop a => bodyOK n a
  | _ => true

def lthen (next : LS → Prop) (Q : Exit → LS → Prop) : Exit → LS → Prop
  | .normal, A => next A
  | e, A => Q e A

def linBlock (id : Nat) (Q : Exit → LS → Prop) : Exit → LS → Prop
  | .exit id', A => if id' = id then Q .normal A else Q (.exit id') A
  | e, A => Q e A

def lift (Q : Exit → LS → Prop) : Exit → AS → Prop := fun e A => ∃ L : LS, A = L.toAS ∧ Q e L

/-- What stands before a loop. -/
def LoopW (P : Program) (cx : Cx) (c : Code) (Q : Exit → LS → Prop) (A : LS) : Prop := AWp P cx (.loop c) (lift Q) A.toAS
def CodeW (P : Program) (cx : Cx) (c : Code) (Q : Exit → LS → Prop) (A : LS) : Prop := AWp P cx c (lift Q) A.toAS

def W (P : Program) (cx : Cx) : Code → (Exit → LS → Prop) → LS → Prop
  | .skip, Q, A => Q .normal A
  | .label _, Q, A => Q .normal A
  | .ret, Q, A => Q .ret A
  | .exit id, Q, A => Q (.exit id) A
  | .region _ ops draw, Q, A => regW P cx ops draw A.next ops.toList 0 A.env A.box [] [] fun env box => ∃ m, A.next + 8 * ops.size ≤ m ∧ Q .normal ⟨env, box, m⟩
  | .seq a b, Q, A => W P cx a (lthen (fun A => W P cx b Q A) Q) A
  | .cond c a b, Q, A => match oeval A.env c with
    | .v (.bool t) => (t = true → W P cx a Q A) ∧ (t = false → W P cx b Q A)
    | .bit p => (p → W P cx a Q A) ∧ W P cx b Q A
    | _ => False
  | .block id c, Q, A => W P cx c (linBlock id Q) A
  | .loop c, Q, A => LoopW P cx c Q A
  | c, Q, A => CodeW P cx c Q A

section
variable {P : Program} {cx : Cx}

theorem eget_same {env : Env} {d : Nat} {x : AV} (h : eget env d = x) : eget ((d, x) :: env) = eget env := by
  funext t
  simp only [eget]
  split
  · rename_i ht; subst ht; exact h.symm
  · rfl

theorem econs_env {env env' : Env} (h : eget env = eget env') (dst : Option Tmp) (x : AV) : eget (econs dst x env) = eget (econs dst x env') := by
  cases dst with
  | none => exact h
  | some d => funext t; simp only [econs, eget, h]

theorem mkAS_env {env env' : Env} (h : eget env = eget env') (box : Boxes) (n : Nat) (u : List Nat) : mkAS env box n u = mkAS env' box n u := by unfold mkAS; rw [h]

theorem RepA.bit' {ι : Nat → Option Nat} {M : Nat → Prop} {w : World} {v : Value} {p : Prop} (h : RepA ι M w v (.bit p)) : ∃ b : Bool, v = .bool b ∧ (b = true → p) := by
  cases h with
  | d h => cases h
  | bit h => exact ⟨_, rfl, h⟩

theorem regW_sound {ops : Array Oper} {draw : Bool} {n0 : Nat} {K : Env → Boxes → Prop} (hd : dstOK cx.N ops = true) : ∀ (l : List Oper) (i : Nat) (env : Env) (box : Boxes) (u : List Nat) (acc : List (List Nat × List Nat)), (∀ j, l[j]? = ops[i + j]?) → (∀ b, b ∈ u → b < n0 + 8 * i) → i + l.length = ops.size → regW P cx ops draw n0 l i env box u acc K →
    ∃ rs env' box' u', Chain P cx ops l (mkAS env box n0 u) rs (mkAS env' box' n0 u') ∧ (draw = true → NapOK ops ((rs.map fun r => r.S.nm).reverse ++ acc)) ∧ (∀ b, b ∈ u' → b < n0 + 8 * ops.size) ∧ K env' box'
  | [], i, env, box, u, acc, hl, hu, hn, h => by
    exact ⟨[], env, box, u, .nil _, by simpa using h.1, by simpa [← hn] using hu, h.2⟩
  | o :: l, i, env, box, u, acc, hl, hu, hn, h => by
    have h0 : ops[i]? = some o := by simpa using (hl 0).symm
    have hl' : ∀ j, l[j]? = ops[i + 1 + j]? := fun j => by have := hl (j + 1); simpa [Nat.add_assoc, Nat.add_comm 1 j] using this
    have hdst : ∀ d, o.dst = some d → d < cx.N := fun d hd' => by
      have := Array.all_eq_true_iff_forall_mem.1 hd o (Array.mem_of_getElem? h0)
      simp only [Bool.and_eq_true] at this
      simpa [hd'] using this.1
    have hnd : ∀ c, o.op ≠ .defer c := fun c hc => by
      have := Array.all_eq_true_iff_forall_mem.1 hd o (Array.mem_of_getElem? h0)
      simp [hc, isDefer] at this
    have hn' : i + 1 + l.length = ops.size := by simp at hn; omega
    simp only [regW] at h
    cases hg : o.guard with
    | none =>
      simp only [hg] at h
      obtain ⟨S, h1, h2, h3, h4, h5⟩ := opW_sound h
      have hu' : ∀ b, b ∈ S.tb.map (·.1) ++ u → b < n0 + 8 * (i + 1) := by
        intro b hb
        rcases List.mem_append.1 hb with hb | hb
        · obtain ⟨p, hp, rfl⟩ := List.mem_map.1 hb
          have := List.all_eq_true.1 h4 p hp
          simp at this; omega
        · have := hu b hb; omega
      obtain ⟨rs, env', box', u', g1, g2, g3, g4⟩ := regW_sound hd l (i + 1) _ _ _ _ hl' hu' hn' h5
      refine ⟨⟨true, S⟩ :: rs, env', box', u', .cons ⟨by unfold GuardIs; simp only [hg], fun _ => by rw [mkAS_eval]; exact h1 trivial, (by intro h; cases h), h2, ?_, hdst, hnd⟩ (by rw [mkAS_app]; exact g1), ?_, g3, g4⟩
      · intro b x hb
        rcases h3 b x hb with h | hr
        · exact .inl h
        · refine .inr fun hused => ?_
          rcases hused with h | h
          · omega
          · have := hu _ h; omega
      · intro hdr
        have := g2 hdr
        simpa using this
    | some jw =>
      obtain ⟨j, want⟩ := jw
      simp only [hg] at h
      split at h
      · rename_i d hdo
        split at h
        · rename_i g hgo
          have hG : GuardIs ops o (mkAS env box n0 u).env g := by
            unfold GuardIs
            simp only [hg]
            unfold guardOf at hgo
            split at hgo
            · rename_i b hb
              injection hgo with hgo
              exact ⟨d, true, b, hdo, .inl ⟨hb, rfl⟩, by rw [← hgo]; cases want <;> cases b <;> rfl⟩
            · rename_i c b hb
              injection hgo with hgo
              exact ⟨d, c, b, hdo, .inr hb, by rw [← hgo]; cases want <;> cases b <;> rfl⟩
            · cases hgo
          rcases h with ⟨hgf, h⟩ | h
          · subst hgf
            obtain ⟨rs, env', box', u', g1, g2, g3, g4⟩ := regW_sound hd l (i + 1) _ _ _ _ hl' (fun b hb => by have := hu b hb; omega) hn' h
            refine ⟨⟨false, ⟨[], .iff false (.v (.bool false)), []⟩⟩ :: rs, env', box', u', .cons ⟨hG, (by intro h; cases h), fun _ => ⟨by simp, fun ι M w => .iffF _⟩, by simp, by simp, hdst, hnd⟩ (by rw [mkAS_app]; exact g1), ?_, g3, g4⟩
            intro hdr
            have := g2 hdr
            simpa [OpS.nm, OpS.reads, OpS.turns] using this
          obtain ⟨⟨fp, x, tb⟩, h1, h2, h3, h4, h5⟩ := opW_sound h
          simp only at h4 h5
          have hlt : ∀ p, p ∈ tb → p.1 < n0 + 8 * i + 8 := fun p hp => by
            have := List.all_eq_true.1 h4 p hp
            simpa using this
          have hu2 : ∀ b, b ∈ tb.map (·.1) ++ u → b < n0 + 8 * (i + 1) := fun b hb => by
            rcases List.mem_append.1 hb with hb | hb
            · obtain ⟨p, hp, rfl⟩ := List.mem_map.1 hb
              have := hlt p hp; omega
            · have := hu b hb; omega
          have hfresh : ∀ b x, (b, some x) ∈ tb → (∃ y, (b, y) ∈ fp) ∨ ¬ (mkAS env box n0 u).used b := fun b x hb => by
            rcases h3 b x hb with h | hr
            · exact .inl h
            · refine .inr fun hused => ?_
              rcases hused with h | h
              · omega
              · have := hu _ h; omega
          split at h5
          · rename_i hnone
            have h4' : ∀ p, p ∈ tb → p.2 = none := fun p hp => by
              have := List.all_eq_true.1 hnone p hp
              simpa using this
            obtain ⟨rs, env', box', u', g1, g2, g3, g4⟩ := regW_sound hd l (i + 1) _ _ _ _ hl' hu2 hn' h5
            refine ⟨⟨g, ⟨fp, .iff g x, tb⟩⟩ :: rs, env', box', u', .cons ⟨hG, ?_, ?_, h2, hfresh, hdst, hnd⟩ (by rw [mkAS_app]; exact g1), ?_, g3, g4⟩
            · intro hon
              rw [mkAS_eval]
              have hon : g = true := hon
              subst hon
              intro ι box used a w q1 q2 q3 q4 q5 K' Q' q6
              exact h1 rfl ι box used a w q1 q2 q3 q4 q5 K' Q' fun v ι' w' s1 s2 => q6 v ι' w' s1 (.iffT s2)
            · intro hon
              have hon : g = false := hon
              subst hon
              exact ⟨h4', fun ι M w => .iffF _⟩
            · intro hdr
              have := g2 hdr
              simpa [OpS.nm, OpS.reads, OpS.turns] using this
          · cases g with
            | true =>
              obtain ⟨rs, env', box', u', g1, g2, g3, g4⟩ := regW_sound hd l (i + 1) _ _ _ _ hl' hu2 hn' (h5.1 rfl)
              refine ⟨⟨true, ⟨fp, x, tb⟩⟩ :: rs, env', box', u', .cons ⟨hG, fun _ => by rw [mkAS_eval]; exact h1 rfl, (by intro h; cases h), h2, hfresh, hdst, hnd⟩ (by rw [mkAS_app]; exact g1), ?_, g3, g4⟩
              intro hdr
              have := g2 hdr
              simpa [OpS.nm, OpS.reads, OpS.turns] using this
            | false =>
              obtain ⟨rs, env', box', u', g1, g2, g3, g4⟩ := regW_sound hd l (i + 1) _ _ _ _ hl' (fun b hb => by have := hu b hb; omega) hn' (h5.2 rfl)
              refine ⟨⟨false, ⟨fp, .iff false x, []⟩⟩ :: rs, env', box', u', .cons ⟨hG, (by intro h; cases h), fun _ => ⟨by simp, fun ι M w => .iffF _⟩, h2, by simp, hdst, hnd⟩ (by rw [mkAS_app]; exact g1), ?_, g3, g4⟩
              intro hdr
              have := g2 hdr
              simpa [OpS.nm, OpS.reads, OpS.turns] using this
        · exact h.elim
      · exact h.elim

theorem W_sound (hm : P.follows .mixedOrders = true) : ∀ (c : Code) (Q : Exit → LS → Prop) (A : LS), bodyOK cx.N c = true → W P cx c Q A → AWp P cx c (lift Q) A.toAS := by
  intro c
  induction c with
  | skip => intro Q A _ h; exact awp_skip ⟨A, rfl, h⟩
  | label l => intro Q A _ h; exact awp_label ⟨A, rfl, h⟩
  | ret => intro Q A _ h; exact awp_ret ⟨A, rfl, h⟩
  | exit id => intro Q A _ h; exact awp_exit ⟨A, rfl, h⟩
  | region id ops draw =>
    intro Q A hok h
    simp only [bodyOK, Bool.and_eq_true] at hok
    obtain ⟨rs, env', box', u', h1, h2, h3, m, hm4, h4⟩ := regW_sound hok.1 ops.toList 0 A.env A.box [] [] (by simp) (by simp) (by simp) h
    have hend : ∀ b, b < A.next ∨ b ∈ u' → b < A.next + 8 * ops.size := by
      rintro b (hb | hb)
      · omega
      · exact h3 b hb
    have hQ : ∀ ι a w, Sat cx ι (mkAS env' box' A.next u') a w → ∃ ι' A', Sat cx ι' A' a w ∧ lift Q .normal A' := fun ι a w hs =>
      ⟨ι, mkAS env' box' m [], hs.ent ⟨fun _ => .inr rfl, fun _ _ h => h, fun b hb => .inl (Nat.lt_of_lt_of_le (hend b hb) hm4)⟩, ⟨⟨env', box', m⟩, rfl, h4⟩⟩
    have main : AWp P cx (.region id ops draw) (fun e A' => e = .normal ∧ A' = mkAS env' box' A.next u') A.toAS := by
      cases draw with
      | false => exact awp_region h1 ⟨rfl, rfl⟩
      | true =>
        refine awp_region_draw hm (by simpa using hok.2) h1 ?_ ⟨rfl, rfl⟩
        have := h2 rfl
        unfold NapOK at this
        simpa using this
    intro ι a w hs
    refine wpIn_mono (main ι a w hs) ?_
    rintro e a' w' ⟨ι', A', h5, rfl, rfl⟩
    exact hQ _ _ _ h5
  | seq x y ihx ihy =>
    intro Q A hok h
    simp only [bodyOK, Bool.and_eq_true] at hok
    refine awp_seq ((ihx _ A hok.1 h).mono ?_)
    rintro e A' ⟨L, rfl, hL⟩
    cases e with
    | normal => exact ihy _ L hok.2 hL
    | _ => exact ⟨L, rfl, hL⟩
  | cond c x y ihx ihy =>
    intro Q A hok h
    simp only [bodyOK, Bool.and_eq_true] at hok
    simp only [W] at h
    split at h
    · rename_i t ht
      exact awp_cond (A := A.toAS) (by rw [mkAS_eval]; exact ht) (fun hb => ihx _ _ hok.1 (h.1 hb)) (fun hb => ihy _ _ hok.2 (h.2 hb))
    · rename_i p ht
      intro ι ac w hs
      have hv := hs.eval c
      rw [mkAS_eval, ht] at hv
      obtain ⟨b, hb, hp⟩ := hv.bit'
      exact wpIn_cond_split hb (fun e => ihx _ _ hok.1 (h.1 (hp e)) ι ac w hs) (fun _ => ihy _ _ hok.2 h.2 ι ac w hs)
    · exact h.elim
  | block id c ih =>
    intro Q A hok h
    simp only [bodyOK] at hok
    refine awp_block ((ih _ A hok h).mono ?_)
    rintro e A' ⟨L, rfl, hL⟩
    cases e with
    | exit id' =>
      simp only [linBlock] at hL
      simp only [ainBlock]
      split <;> rename_i hh <;> simp only [hh, if_true, if_false] at hL <;> exact ⟨L, rfl, hL⟩
    | _ => exact ⟨L, rfl, hL⟩
  | loop c _ => intro Q A _ h; exact h
  | rangeFunc f ps a b _ _ => intro Q A _ h; exact h
  | scope c _ => intro Q A _ h; exact h
  | goto l => intro Q A _ h; exact h
  | refuse s => intro Q A _ h; exact h

/-! ### Calls -/

/-- Two lists, place by place. -/
inductive All2 {α β : Type} (R : α → β → Prop) : List α → List β → Prop
  | nil : All2 R [] []
  | cons {a : α} {b : β} {l : List α} {m : List β} (h : R a b) (t : All2 R l m) : All2 R (a :: l) (b :: m)

theorem All2.length {α β : Type} {R : α → β → Prop} {l : List α} {m : List β} (h : All2 R l m) : l.length = m.length := by
  induction h with
  | nil => rfl
  | cons _ _ ih => simp [ih]

theorem all2_frz {fp : List (Nat × Bx)} {l xs : List AV} (h : All2 (Frz fp) l xs) : ∀ (i : Nat) (a b : AV), l[i]? = some a → xs[i]? = some b → Frz fp a b := by
  induction h with
  | nil => intro i a b h; simp at h
  | cons h _ ih =>
    intro i a b ha hb
    rcases i with _ | i
    · simp at ha hb; subst ha hb; exact h
    · exact ih i a b (by simpa using ha) (by simpa using hb)

theorem callW_frz {env : Env} {box : Boxes} {nm : Nat} {f : FuncId} {l : List AV} {o : Oper} {K : OpS → Prop} {xs : List AV} {x : AV} (fp : List (Nat × Bx)) (hc : Callable P f) (hF : Fun P f xs x)
    (hfp : ∀ b x, (b, x) ∈ fp → bget box b = some x) (hfz : All2 (Frz fp) l xs) {hyp : Prop} (hK : K ⟨fp, x, kills fp⟩) : CallW P cx hyp env box nm f l o K :=
  fun ho => ⟨_, fun _ => y_call ho hc hF hfz.length (all2_frz hfz), hfp, by intro b x hb; simp [kills] at hb, hK⟩

theorem callW_lend {env : Env} {box : Boxes} {nm : Nat} {f : FuncId} {l : List AV} {o : Oper} {K : OpS → Prop} {xs : List AV} {x : AV} (fp : List (Nat × Bx)) (hc : Callable P f) (hF : Fun P f xs x) (hx : x.flat0 = true)
    (hfp : ∀ b x, (b, x) ∈ fp → bget box b = some x) (hfz : All2 (Frz fp) l xs) {hyp : Prop} (hK : K ⟨fp, x, []⟩) : CallW P cx hyp env box nm f l o K :=
  fun ho => ⟨_, fun _ => y_lend ho hc hF hx hfz.length (all2_frz hfz), hfp, by simp, hK⟩

/-- The call of a function that is known by its contract, at plain data. -/
theorem callW {env : Env} {box : Boxes} {nm : Nat} {f : FuncId} {l : List AV} {o : Oper} {K : OpS → Prop} {x : AV} {hyp : Prop} (hc : Callable P f) (hF : Fun P f l x)
    (hd : l.all AV.isData = true) (hK : K ⟨[], x, []⟩) : CallW P cx hyp env box nm f l o K := by
  refine callW_frz [] hc hF (by simp) ?_ hK
  have : ∀ l : List AV, l.all AV.isData = true → All2 (Frz []) l l := by
    intro l
    induction l with
    | nil => intro _; exact .nil
    | cons a l ih =>
      intro h
      rw [List.all_cons, Bool.and_eq_true] at h
      exact .cons (.data h.1) (ih h.2)
  exact this l hd

theorem callable_of {f : FuncId} {fn : Func} (hf : P.funcs[f]? = some fn) (hn : (fn.name == "runtime.NumGoroutine") = false) (hb : fn.body.isNone = false) : Callable P f := by
  intro vs w
  simp only [callFunc, Sem.run_bind, run_program, Result.andThen_ok, hf, hn, hb, Bool.false_eq_true, if_false, Sem.run_pure]

/-! ### Loops -/

theorem bget_in {b : Nat} {x : Bx} : ∀ {box : Boxes}, bget box b = some x → ∃ r, (b, r) ∈ box
  | [], h => by simp [bget, bput] at h
  | (c, r) :: l, h => by
    by_cases hb : b = c
    · subst hb; exact ⟨r, by simp⟩
    · simp only [bget, bput, hb, if_false] at h
      obtain ⟨r', h'⟩ := bget_in (box := l) h
      exact ⟨r', List.mem_cons_of_mem _ h'⟩


/-- What is kept of a state: of temporaries, of boxes (names by r). -/
def lcutE (p : Nat → Bool) (r : Nat → Nat) (env : Env) : Env → Prop
  | [] => True
  | (t, x) :: l => (eget env t = x.ren r ∧ x.names p = true) ∧ lcutE p r env l

def lcutB (p : Nat → Bool) (r : Nat → Nat) (box : Boxes) : Boxes → Prop
  | [] => True
  | (b, some x) :: l => (bget box (r b) = some ⟨x.t, x.cs.map (AV.ren r)⟩ ∧ p b = true ∧ x.cs.all (AV.names p) = true) ∧ lcutB p r box l
  | (_, none) :: l => lcutB p r box l

def lcutI (r : Nat → Nat) : Boxes → Prop
  | [] => True
  | (b, _) :: l => (l.all (fun q => decide (r b = r q.1 → b = q.1)) = true) ∧ lcutI r l

/-- State A is at least what is said of A', of which names are turned by r. -/
def LCut (cx : Cx) (r : Nat → Nat) (A A' : LS) : Prop :=
  lcutE (fun b => decide (b < A'.next)) r A.env A'.env ∧ lcutB (fun b => decide (b < A'.next)) r A.box A'.box ∧ lcutI r A'.box ∧ ∀ b g, cx.F b = some g → b < A'.next ∧ r b = b

theorem lcutE_spec {p : Nat → Bool} {r : Nat → Nat} {env : Env} : ∀ {l : Env}, lcutE p r env l → ∀ t, eget l t = .any ∨ (eget env t = (eget l t).ren r ∧ (eget l t).names p = true)
  | [], _, t => .inl rfl
  | (s, x) :: l, h, t => by
    simp only [eget]
    by_cases ht : t = s
    · subst ht; simp only [if_true]; exact .inr h.1
    · simp only [ht, if_false]; exact lcutE_spec h.2 t

theorem lcutB_spec {p : Nat → Bool} {r : Nat → Nat} {box : Boxes} : ∀ {l : Boxes}, lcutB p r box l → ∀ b x, bget l b = some x → bget box (r b) = some ⟨x.t, x.cs.map (AV.ren r)⟩ ∧ p b = true ∧ ∀ y, y ∈ x.cs → y.names p = true
  | [], _, b, x, hx => by simp [bget, bput] at hx
  | (c, some y) :: l, h, b, x, hx => by
    by_cases hb : b = c
    · subst hb
      simp [bget, bput] at hx
      subst hx
      exact ⟨h.1.1, h.1.2.1, List.all_eq_true.1 h.1.2.2⟩
    · simp only [bget, bput, hb, if_false] at hx
      exact lcutB_spec h.2 b x hx
  | (c, none) :: l, h, b, x, hx => by
    by_cases hb : b = c
    · subst hb; simp [bget, bput] at hx
    · simp only [bget, bput, hb, if_false] at hx
      exact lcutB_spec (l := l) h b x hx

theorem lcutI_spec {r : Nat → Nat} : ∀ {l : Boxes}, lcutI r l → ∀ b b' x x', (b, x) ∈ l → (b', x') ∈ l → r b = r b' → b = b'
  | (c, y) :: l, h, b, b', x, x', h1, h2, he => by
    have key : ∀ q, q ∈ l → r c = r q.1 → c = q.1 := fun q hq => by
      have := List.all_eq_true.1 h.1 q hq
      exact of_decide_eq_true this
    rcases List.mem_cons.1 h1 with g1 | g1
    · rcases List.mem_cons.1 h2 with g2 | g2
      · injection g1 with e1 _; injection g2 with e2 _; rw [e1, e2]
      · injection g1 with e1 _; subst e1; exact key (b', x') g2 he
    · rcases List.mem_cons.1 h2 with g2 | g2
      · injection g2 with e2 _; subst e2; exact (key (b, x) g1 he.symm).symm
      · exact lcutI_spec h.2 b b' x x' g1 g2 he

theorem LCut.cut {r : Nat → Nat} {A A' : LS} (h : LCut cx r A A') : Cut cx (fun b => decide (b < A'.next)) r A.toAS A'.toAS where
  env := lcutE_spec h.1
  box := lcutB_spec h.2.1
  inj := fun b b' x x' h1 h2 he => by
    obtain ⟨r1, hr1⟩ := bget_in h1
    obtain ⟨r2, hr2⟩ := bget_in h2
    exact lcutI_spec h.2.2.1 b b' _ _ hr1 hr2 he
  used := fun b hb => .inl (by simpa using hb)
  fix := fun b g hb => ⟨by simpa using (h.2.2.2 b g hb).1, (h.2.2.2 b g hb).2⟩

/-- A loop, by what holds at its head; the body's demands are for the reckoning. -/
theorem loopW {σ : Type} {c : Code} {Q : Exit → LS → Prop} {A : LS} (hm : P.follows .mixedOrders = true) (I : σ → LS) (μ : σ → Nat) (r : Nat → Nat) (s₀ : σ) (hok : bodyOK cx.N c = true) (h₀ : LCut cx r A (I s₀))
    (round : ∀ s, W P cx c (lthen (fun A' => ∃ (s' : σ) (r' : Nat → Nat), LCut cx r' A' (I s') ∧ μ s' < μ s) Q) (I s)) : LoopW P cx c Q A := by
  refine awp_loop (fun s => (I s).toAS) μ _ r s₀ h₀.cut fun s => ?_
  refine (W_sound hm c _ (I s) hok (round s)).mono ?_
  rintro e A' ⟨L, rfl, hL⟩
  cases e with
  | normal =>
    obtain ⟨s', r', h1, h2⟩ := hL
    exact ⟨s', _, r', h1.cut, h2⟩
  | _ => exact ⟨L, rfl, hL⟩

/-- Here less need be known. -/
theorem cutW {c : Code} {Q : Exit → LS → Prop} {A : LS} (hm : P.follows .mixedOrders = true) (r : Nat → Nat) (A' : LS) (hok : bodyOK cx.N c = true) (h : LCut cx r A A') (hw : W P cx c Q A') : AWp P cx c (lift Q) A.toAS :=
  awp_cut h.cut (W_sound hm c _ A' hok hw)

/-! ### Functions -/

/-- What a result variable holds. -/
def resW (P : Program) (env : Env) (box : Boxes) (r : ResultVar) (K : AV → Prop) : Prop :=
  match r with
  | .tmp t => K (eget env t)
  | .cell a t => match tv P t, eget env a with
    | some i, .ptr b off => match bget box b with
      | some bx => match ldAV i.agg i.size off bx.cs with
        | some y => bx.cs ≠ [] ∧ K y
        | none => False
      | none => False
    | _, _ => False

/-- Two lists, place by place. -/
def fzl (R : AV → AV → Prop) : List AV → List AV → Prop
  | [], [] => True
  | x :: l, y :: m => R x y ∧ fzl R l m
  | _, _ => False

/-- What is of the call's own is handed back as plain data (to a depth). -/
def fz (box : Boxes) : Nat → AV → AV → Prop
  | 0, _, _ => False
  | d + 1, x, y => match x, y with
    | .v a, .v b => a = b
    | .sl f k l, .sl f' k' l' => k = k' ∧ l = l' ∧ (f' = true → f = true)
    | .v (.slice none 0 0), .sl _ _ l => l = []
    | .pp l, .pp l' => l = l'
    | .osl b k off n, .sl f' k' l' => (f' = false ∧ k = k' ∧ 0 < k ∧ n = l'.length ∧ (∀ r, r ∈ l' → r.length = k)) ∧ ∃ bx, bget box b = some bx ∧ off + n * k ≤ bx.cs.length ∧ (((bx.cs.drop off).take (n * k) = l'.flatten ∧ ∀ r, r ∈ l' → ∀ y, y ∈ r → y.isData = true) ∨ fzl (fz box d) ((bx.cs.drop off).take (n * k)) l'.flatten)
    | .ptr b off, .pp l => l ≠ [] ∧ ∃ bx, bget box b = some bx ∧ fzl (fz box d) (bx.cs.drop off) l
    | .fn f l m, .fn f' l' m' => f = f' ∧ fzl (fz box d) l l' ∧ fzl (fz box d) m m'
    | .agg l, .agg m => fzl (fz box d) l m
    | .tup l, .tup m => fzl (fz box d) l m
    | _, _ => False

def fzA (box : Boxes) (x y : AV) : Prop := fz box 6 x y

/-- How a body ends, of a state written out. -/
def LEnds (P : Program) (rs : Array ResultVar) (x : AV) : Exit → LS → Prop
  | .normal, A | .ret, A => (match rs.toList, x with
    | [], .tup [] => True
    | [r], x => resW P A.env A.box r fun y => fzA A.box y x
    | [r, s], .tup [x, x'] => resW P A.env A.box r fun y => fzA A.box y x ∧ resW P A.env A.box s fun y => fzA A.box y x'
    | [r, s, t], .tup [x, x', x''] => resW P A.env A.box r fun y => fzA A.box y x ∧ resW P A.env A.box s fun y => fzA A.box y x' ∧ resW P A.env A.box t fun y => fzA A.box y x''
    | _, _ => False)
  | _, _ => False

theorem resW_sound {env : Env} {box : Boxes} {n : Nat} {r : ResultVar} {K : AV → Prop} (h : resW P env box r K) : ∃ y, ResIs P (mkAS env box n []) r y ∧ K y := by
  unfold resW at h
  split at h
  · rename_i t; exact ⟨_, .tmp t, h⟩
  · rename_i a t
    split at h
    · rename_i i b off hi ha
      split at h
      · rename_i bx hb
        split at h
        · rename_i y hy
          exact ⟨y, .cell (A := mkAS env box n []) ha hb h.1 (tv_agg hi) (tv_size hi) hy, h.2⟩
        · exact h.elim
      · exact h.elim
    · exact h.elim

/-- The boxes of a list, as a list of what they hold. -/
def liveOf (box : Boxes) : Boxes → List (Nat × Bx)
  | [] => []
  | (b, _) :: l => match bget box b with
    | some x => (b, x) :: liveOf box l
    | none => liveOf box l

theorem liveOf_spec {box : Boxes} {b : Nat} {x : Bx} : ∀ {l : Boxes}, (b, x) ∈ liveOf box l → bget box b = some x
  | [], h => by simp [liveOf] at h
  | (c, r) :: l, h => by
    unfold liveOf at h
    split at h
    · rename_i y hy
      rcases List.mem_cons.1 h with h | h
      · injection h with h1 h2; subst h1 h2; exact hy
      · exact liveOf_spec h
    · exact liveOf_spec h

theorem liveOf_mem {box : Boxes} {b : Nat} {x : Bx} (hx : bget box b = some x) : ∀ {l : Boxes} {r : Option Bx}, (b, r) ∈ l → (b, x) ∈ liveOf box l
  | (c, r') :: l, r, h => by
    rcases List.mem_cons.1 h with h | h
    · injection h with h1 h2
      subst h1
      simp [liveOf, hx]
    · have := liveOf_mem hx h
      unfold liveOf
      split
      · exact List.mem_cons_of_mem _ this
      · exact this

theorem fzl_spec {R : AV → AV → Prop} : ∀ {l m : List AV}, fzl R l m → l.length = m.length ∧ ∀ (i : Nat) (x y : AV), l[i]? = some x → m[i]? = some y → R x y
  | [], [], _ => ⟨rfl, by simp⟩
  | x :: l, y :: m, h => by
    obtain ⟨h1, h2⟩ := fzl_spec h.2
    refine ⟨by simp [h1], fun i a b ha hb => ?_⟩
    rcases i with _ | i
    · simp at ha hb; subst ha hb; exact h.1
    · exact h2 i a b (by simpa using ha) (by simpa using hb)
  | [], _ :: _, h => h.elim
  | _ :: _, [], h => h.elim

theorem fz_sound {box : Boxes} : ∀ (d : Nat) {x y : AV}, fz box d x y → Frz (liveOf box box) x y
  | 0, _, _, h => h.elim
  | d + 1, x, y, h => by
    unfold fz at h
    split at h
    · subst h; exact .data (by simp)
    · rename_i f k l f' k' l'
      obtain ⟨rfl, rfl, h⟩ := h
      cases f' with
      | true => rw [h rfl]; exact .data (by simp)
      | false => cases f with
        | true => exact .less
        | false => exact .data (by simp)
    · subst h; exact .nil
    · subst h; exact .data (by simp)
    · rename_i b k off n f' k' l'
      obtain ⟨⟨rfl, rfl, h0, hn, hk⟩, bx, hb, hle, h⟩ := h
      obtain ⟨r, hr⟩ := bget_in hb
      refine .osl (liveOf_mem hb hr) hn hk h0 hle ?_
      rcases h with ⟨h1, h2⟩ | h
      · intro i x y hx hy
        rw [h1, hy] at hx
        injection hx with hx
        subst hx
        have hm := List.mem_of_getElem? hy
        obtain ⟨r, hr, hyr⟩ := List.mem_flatten.1 hm
        exact .data (h2 r hr y hyr)
      · exact fun i x y hx hy => fz_sound d ((fzl_spec h).2 i x y hx hy)
    · rename_i b off l
      obtain ⟨hl, bx, hb, h⟩ := h
      obtain ⟨r, hr⟩ := bget_in hb
      obtain ⟨h1, h2⟩ := fzl_spec h
      refine .ptr (liveOf_mem hb hr) ?_ fun i x y hx hy => fz_sound d (h2 i x y hx hy)
      have h3 : l.length ≠ 0 := by simpa using hl
      simp at h1
      omega
    · obtain ⟨rfl, h1, h2⟩ := h
      exact .fn (fzl_spec h1).1 (fzl_spec h2).1 (fun i x y hx hy => fz_sound d ((fzl_spec h1).2 i x y hx hy)) (fun i x y hx hy => fz_sound d ((fzl_spec h2).2 i x y hx hy))
    · exact .agg (fzl_spec h).1 fun i x y hx hy => fz_sound d ((fzl_spec h).2 i x y hx hy)
    · exact .tup (fzl_spec h).1 fun i x y hx hy => fz_sound d ((fzl_spec h).2 i x y hx hy)
    · exact h.elim

theorem fzA_sound {box : Boxes} {x y : AV} (h : fzA box x y) : Frz (liveOf box box) x y := fz_sound _ h

/-- The boxes that go into what is handed over. -/
def pickB (box : Boxes) : List Nat → Boxes
  | [] => []
  | b :: l => (b, bget box b) :: pickB box l

theorem bget_pickB {box : Boxes} {b : Nat} {x : Bx} : ∀ {ns : List Nat}, bget (pickB box ns) b = some x → bget box b = some x
  | [], h => by simp [pickB, bget, bput] at h
  | c :: l, h => by
    simp only [pickB, bget, bput] at h
    by_cases hb : b = c
    · subst hb; simpa [bget] using h
    · rw [if_neg hb] at h; exact bget_pickB (ns := l) h

/-- A call: the boxes ns go into what is handed over, and are given up. -/
theorem callF {env : Env} {box : Boxes} {nm : Nat} {f : FuncId} {l : List AV} {o : Oper} {K : OpS → Prop} {xs : List AV} {x : AV} {hyp : Prop} (ns : List Nat) (hc : Callable P f) (hF : Fun P f xs x)
    (hfz : fzl (fz (pickB box ns) 6) l xs) (hK : K ⟨liveOf (pickB box ns) (pickB box ns), x, kills (liveOf (pickB box ns) (pickB box ns))⟩) : CallW P cx hyp env box nm f l o K :=
  fun ho => ⟨_, fun _ => y_call ho hc hF (fzl_spec hfz).1 fun i x y hx hy => fz_sound _ ((fzl_spec hfz).2 i x y hx hy), fun b x h => bget_pickB (liveOf_spec h), by intro b x hb; simp [kills] at hb, hK⟩

/-- A call: the boxes ns are lent. -/
theorem callL {env : Env} {box : Boxes} {nm : Nat} {f : FuncId} {l : List AV} {o : Oper} {K : OpS → Prop} {xs : List AV} {x : AV} {hyp : Prop} (ns : List Nat) (hc : Callable P f) (hF : Fun P f xs x) (hx : x.flat0 = true)
    (hfz : fzl (fz (pickB box ns) 6) l xs) (hK : K ⟨liveOf (pickB box ns) (pickB box ns), x, []⟩) : CallW P cx hyp env box nm f l o K :=
  fun ho => ⟨_, fun _ => y_lend ho hc hF hx (fzl_spec hfz).1 fun i x y hx hy => fz_sound _ ((fzl_spec hfz).2 i x y hx hy), fun b x h => bget_pickB (liveOf_spec h), by simp, hK⟩

theorem LEnds_sound {rs : Array ResultVar} {x : AV} {A : LS} (h : LEnds P rs x .ret A) : ∃ y fp, Ress P A.toAS rs y ∧ (∀ b x, (b, x) ∈ fp → A.toAS.box b = some x) ∧ Frz fp y x := by
  have hfp : ∀ b x, (b, x) ∈ liveOf A.box A.box → A.toAS.box b = some x := fun b x h => liveOf_spec h
  have hrs : ∀ l, rs.toList = l → rs = l.toArray := fun l h => by rw [← h]
  simp only [LEnds] at h
  split at h
  · rename_i h1
    rw [hrs _ h1]
    exact ⟨_, [], .none, by simp, .tup rfl (by simp)⟩
  · rename_i r x h1
    rw [hrs _ h1]
    obtain ⟨y, h2, h3⟩ := resW_sound (n := A.next) h
    exact ⟨y, _, .one h2, hfp, fzA_sound h3⟩
  · rename_i r s x x' h1
    rw [hrs _ h1]
    obtain ⟨y, h2, h3, h4⟩ := resW_sound (n := A.next) h
    obtain ⟨y', h2', h3'⟩ := resW_sound (n := A.next) h4
    refine ⟨_, _, .two h2 h2', hfp, .tup rfl fun i a b ha hb => ?_⟩
    rcases i with _ | _ | i
    · simp at ha hb; subst ha hb; exact fzA_sound h3
    · simp at ha hb; subst ha hb; exact fzA_sound h3'
    · simp at hb
  · rename_i r s t x x' x'' h1
    rw [hrs _ h1]
    obtain ⟨y, h2, h3, h4⟩ := resW_sound (n := A.next) h
    obtain ⟨y', h2', h3', h4'⟩ := resW_sound (n := A.next) h4
    obtain ⟨y'', h2'', h3''⟩ := resW_sound (n := A.next) h4'
    refine ⟨_, _, .three h2 h2' h2'', hfp, .tup rfl fun i a b ha hb => ?_⟩
    rcases i with _ | _ | _ | i
    · simp at ha hb; subst ha hb; exact fzA_sound h3
    · simp at ha hb; subst ha hb; exact fzA_sound h3'
    · simp at ha hb; subst ha hb; exact fzA_sound h3''
    · simp at hb
  · exact h.elim

def argsL : List AV → Nat → Env
  | [], _ => []
  | x :: l, i => (i, x) :: argsL l (i + 1)

theorem eget_argsL : ∀ (l : List AV) (i t : Nat), eget (argsL l i) t = if t < i then .any else l.getD (t - i) .any
  | [], i, t => by simp [argsL, eget]
  | x :: l, i, t => by
    simp only [argsL, eget]
    by_cases h : t = i
    · subst h; simp
    · rw [if_neg h, eget_argsL l (i + 1) t]
      by_cases h1 : t < i
      · simp [h1, show t < i + 1 by omega]
      · obtain ⟨m, rfl⟩ : ∃ m, t = i + 1 + m := ⟨t - i - 1, by omega⟩
        rw [if_neg (by omega), if_neg (by omega), show i + 1 + m - i = m + 1 by omega, show i + 1 + m - (i + 1) = m by omega]
        rfl

theorem fun_W {f : FuncId} {fn : Func} {c : Code} {args : List AV} {x : AV} (hm : P.follows .mixedOrders = true) (hf : P.funcs[f]? = some fn) (hb : fn.body = some c) (hn : args.length ≤ fn.ntmps) (hok : bodyOK fn.ntmps c = true)
    (h : ∀ cx : Cx, cx.N = fn.ntmps → cx.R = none → cx.F = (fun _ => none) → args.all AV.lens = true → W P cx c (LEnds P fn.results x) ⟨argsL args 0, [], 0⟩) : Fun P f args x := by
  refine fun_of hf hb hn fun cx hN hR hF hL => ?_
  have := W_sound (cx := cx) hm c _ _ (by rw [hN]; exact hok) (h cx hN hR hF hL)
  have he : (⟨argsEnv args, fun _ => none, fun _ => False⟩ : AS) = LS.toAS ⟨argsL args 0, [], 0⟩ := by
    unfold LS.toAS mkAS
    congr 1
    · funext t
      rw [eget_argsL]
      simp [argsEnv]
    · funext b
      simp
  rw [he]
  refine this.mono ?_
  rintro e A ⟨L, rfl, hL⟩
  cases e with
  | normal => exact LEnds_sound hL
  | ret => exact LEnds_sound hL
  | _ => exact hL.elim
end


section
variable {P : Program} {cx : Cx}
@[congr] theorem CallW_congr {hyp hyp' : Prop} {env : Env} {box box' : Boxes} {nm : Nat} {f : FuncId} {l l' : List AV} {o : Oper} {K : OpS → Prop} (h : l = l') (hb : box = box') (hh : hyp = hyp') : CallW P cx hyp env box nm f l o K = CallW P cx hyp' env box' nm f l' o K := by rw [h, hb, hh]
@[congr] theorem OtherW_congr {hyp : Prop} {env env' : Env} {box box' : Boxes} {nm : Nat} {o : Oper} {K : OpS → Prop} (h : env = env') (hb : box = box') : OtherW P cx hyp env box nm o K = OtherW P cx hyp env' box' nm o K := by rw [h, hb]
@[congr] theorem LoopW_congr {c : Code} {Q : Exit → LS → Prop} {A A' : LS} (h : A = A') : LoopW P cx c Q A = LoopW P cx c Q A' := by rw [h]
@[congr] theorem CodeW_congr {c : Code} {Q : Exit → LS → Prop} {A A' : LS} (h : A = A') : CodeW P cx c Q A = CodeW P cx c Q A' := by rw [h]
@[congr] theorem NapOK_congr {ops : Array Oper} {acc acc' : List (List Nat × List Nat)} (h : acc = acc') : NapOK ops acc = NapOK ops acc' := by rw [h]
end

end Go.Proofs.YtkonljmmdifnaaaGreat.V
set_option linter.unusedSimpArgs false
set_option linter.unusedVariables false
namespace Go.Proofs.YtkonljmmdifnaaaGreat.V
open Go.RowKit

def lives (fp : List (Nat × Bx)) : List (Nat × Option Bx) := fp.map fun p => (p.1, some p.2)
def inl {α : Type} (l : List (Nat × α)) (b : Nat) : Bool := l.any fun p => p.1 == b

/-- The callee's view of its caller's boxes. -/
def bcx (M0 : Nat → Prop) (ι : Nat → Option Nat) (fp : List (Nat × Bx)) (w : World) (n : Nat) : Cx := ⟨w, fun g => ∃ b, inl fp b = true ∧ ι b = some g, M0, n, none, fun b => if inl fp b then ι b else none⟩

def FunB (P : Program) (f : FuncId) (fp : List (Nat × Bx)) (args : List AV) (x : AV) (tb : List (Nat × Option Bx)) : Prop :=
  ∀ (M0 : Nat → Prop) (ι : Nat → Option Nat) (w : World) (vs : Array Value),
    HSat (bcx M0 ι fp w 0) ι (bget (lives fp)) (fun b => inl fp b = true) w → vs.size = args.length →
    (∀ (i : Nat) (v : Value) (y : AV), vs[i]? = some v → args[i]? = some y → RepA ι (Mof (bcx M0 ι fp w 0) ι (bget (lives fp))) w v y) →
    Calls P f vs w fun e w' => ∃ v ι', e = .returned v ∧ (∀ b, inl fp b = true → ι' b = ι b) ∧ HSat (bcx M0 ι fp w 0) ι' (bget (tb ++ lives fp)) (fun b => inl fp b = true ∨ inl tb b = true) w' ∧ Oth w w' ∧
      RepA ι' (Mof (bcx M0 ι fp w 0) ι' (bget (tb ++ lives fp))) w' v x

section
variable {P : Program} {cx : Cx} {ι : Nat → Option Nat} {box : Nat → Option Bx} {used : Nat → Prop} {w : World} {M M' : Nat → Prop}

theorem inl_iff {α : Type} {l : List (Nat × α)} {b : Nat} : inl l b = true ↔ ∃ x, (b, x) ∈ l := by
  simp only [inl, List.any_eq_true, beq_iff_eq]
  constructor
  · rintro ⟨p, h1, rfl⟩; exact ⟨p.2, h1⟩
  · rintro ⟨x, h⟩; exact ⟨_, h, rfl⟩

theorem bget_lives {fp : List (Nat × Bx)} {b : Nat} {x : Bx} (h : bget (lives fp) b = some x) : (b, x) ∈ fp := by
  induction fp with
  | nil => simp [lives, bget, bput] at h
  | cons p l ih =>
    simp only [lives, List.map_cons, bget, bput] at h
    by_cases hb : b = p.1
    · subst hb; simp at h; subst h; simp
    · rw [if_neg hb] at h; exact List.mem_cons_of_mem _ (ih h)

theorem bget_lives_of {fp : List (Nat × Bx)} {b : Nat} (h : inl fp b = true) : ∃ x, bget (lives fp) b = some x := by
  induction fp with
  | nil => simp [inl] at h
  | cons p l ih =>
    simp only [lives, List.map_cons, bget, bput]
    by_cases hb : b = p.1
    · exact ⟨p.2, by simp [hb]⟩
    · rw [if_neg hb]
      refine ih ?_
      simp only [inl, List.any_cons, Bool.or_eq_true, beq_iff_eq] at h
      exact h.resolve_left fun e => hb e.symm

theorem bget_app {l m : Boxes} {b : Nat} : bget (l ++ m) b = if inl l b = true then bget l b else bget m b := by
  induction l with
  | nil => simp [inl]
  | cons p l ih =>
    simp only [List.cons_append, bget, bput, inl, List.any_cons]
    by_cases hb : b = p.1
    · simp [hb]
    · have : (p.1 == b) = false := by simpa using fun e => hb e.symm
      simp only [hb, if_false, this, Bool.false_or]
      exact ih

theorem map_ren {r : Nat → Nat} {vs : Array Value} {l : List AV} (hn : vs.size = l.length) (ih : ∀ (i : Nat) (x : Value) (y : AV), vs[i]? = some x → l[i]? = some y → y.ren r = y) : l.map (AV.ren r) = l := by
  apply List.ext_getElem?
  intro i
  rw [List.getElem?_map]
  cases hl : l[i]? with
  | none => rfl
  | some y =>
    have hlt := (List.getElem?_eq_some_iff.1 hl).1
    simp [ih i _ y (Array.getElem?_eq_getElem (by omega)) hl]

theorem RepD.ren_eq {r : Nat → Nat} {v : Value} {a : AV} (h : RepD M w v a) : a.ren r = a := by
  induction h with
  | v => simp
  | sl => simp
  | pp => simp
  | mp => simp
  | agg hn h ih => rw [ren_agg, map_ren hn ih]
  | tup hn h ih => rw [ren_tup, map_ren hn ih]
  | fn hf hc _ _ ih1 ih2 => rw [ren_fn, map_ren hf ih1, map_ren hc ih2]

/-- The same under the caller's names. -/
theorem RepA.turn {ι' : Nat → Option Nat} {r : Nat → Nat} {p : Nat → Bool} (hι : ∀ b g, p b = true → ι b = some g → ι' (r b) = some g) (hM : ∀ g, M' g → M g) {v : Value} {a : AV} (h : RepA ι M w v a) : a.names p = true → RepA ι' M' w v (a.ren r) := by
  induction h with
  | @d v a h =>
    intro _
    rw [h.ren_eq]
    exact (RepA.d h).less hM
  | any v => intro _; rw [ren_any]; exact .any v
  | ptr h => intro hp; rw [ren_ptr]; exact .ptr (hι _ _ (by simpa using hp) h)
  | osl h h1 h2 h3 h4 => intro hp; rw [ren_osl]; exact .osl (hι _ _ (by simpa using hp) h) h1 h2 h3 h4
  | osl0 A b k o => intro _; rw [ren_osl]; exact .osl0 A _ _ _
  | fn hf hc _ _ ih1 ih2 =>
    intro hp
    rw [names_fn, Bool.and_eq_true, List.all_eq_true, List.all_eq_true] at hp
    rw [ren_fn]
    refine .fn (by simpa using hf) (by simpa using hc) (fun i x y hx hy => ?_) (fun i x y hx hy => ?_)
    · rw [List.getElem?_map, Option.map_eq_some_iff] at hy
      obtain ⟨z, hz, rfl⟩ := hy
      exact ih1 i x z hx hz (hp.1 _ (List.mem_of_getElem? hz))
    · rw [List.getElem?_map, Option.map_eq_some_iff] at hy
      obtain ⟨z, hz, rfl⟩ := hy
      exact ih2 i x z hx hz (hp.2 _ (List.mem_of_getElem? hz))
  | agg hn _ ih =>
    intro hp
    rw [names_agg, List.all_eq_true] at hp
    rw [ren_agg]
    refine .agg (by simpa using hn) fun i x y hx hy => ?_
    rw [List.getElem?_map, Option.map_eq_some_iff] at hy
    obtain ⟨z, hz, rfl⟩ := hy
    exact ih i x z hx hz (hp _ (List.mem_of_getElem? hz))
  | tup hn _ ih =>
    intro hp
    rw [names_tup, List.all_eq_true] at hp
    rw [ren_tup]
    refine .tup (by simpa using hn) fun i x y hx hy => ?_
    rw [List.getElem?_map, Option.map_eq_some_iff] at hy
    obtain ⟨z, hz, rfl⟩ := hy
    exact ih i x z hx hz (hp _ (List.mem_of_getElem? hz))
  | iface _ ih => intro hp; rw [names_iface] at hp; rw [ren_iface]; exact .iface (ih hp)
  | iffT _ ih => intro hp; rw [names_iff] at hp; rw [ren_iff]; exact .iffT (ih hp)
  | iffF a => intro _; rw [ren_iff]; exact .iffF _
  | bit h => intro _; rw [ren_bit]; exact .bit h

def Bx.ren (r : Nat → Nat) (x : Bx) : Bx := ⟨x.t, x.cs.map (AV.ren r)⟩
def renF (r : Nat → Nat) (fp : List (Nat × Bx)) : List (Nat × Bx) := fp.map fun p => (r p.1, p.2.ren r)
def renT (r : Nat → Nat) (tb : List (Nat × Option Bx)) : List (Nat × Option Bx) := tb.map fun p => (r p.1, p.2.map (Bx.ren r))
/-- Names of the footprint, and all names. -/
def Bx.okN (p : Nat → Bool) (x : Bx) : Bool := x.cs.all (AV.names p)
def okF (fp : List (Nat × Bx)) : Bool := fp.all fun p => p.2.okN (inl fp)
def okT (fp : List (Nat × Bx)) (tb : List (Nat × Option Bx)) : Bool := tb.all fun p => match p.2 with | some x => x.okN (fun b => inl fp b || inl tb b) | none => inl fp p.1
/-- No two names come to one. -/
def injN (r : Nat → Nat) (l : List Nat) : Bool := l.all fun b => l.all fun c => r b != r c || b == c

def nmsF (fp : List (Nat × Bx)) : List Nat := fp.map (·.1)
def nmsT (tb : List (Nat × Option Bx)) : List Nat := tb.map (·.1)

theorem injN_spec {r : Nat → Nat} {l : List Nat} (h : injN r l = true) {b c : Nat} (hb : b ∈ l) (hc : c ∈ l) (he : r b = r c) : b = c := by
  have h1 := List.all_eq_true.1 (List.all_eq_true.1 h b hb) c hc
  simp only [Bool.or_eq_true, bne_iff_ne, beq_iff_eq] at h1
  exact h1.resolve_left fun h => h he

theorem mem_nmsF {fp : List (Nat × Bx)} {b : Nat} : b ∈ nmsF fp ↔ inl fp b = true := by simp [nmsF, inl_iff]
theorem mem_nmsT {tb : List (Nat × Option Bx)} {b : Nat} : b ∈ nmsT tb ↔ inl tb b = true := by simp [nmsT, inl_iff]

theorem bput_renT {r : Nat → Nat} {b : Nat} {l : List Nat} (hj : injN r l = true) (hb : b ∈ l) : ∀ {tb : List (Nat × Option Bx)}, (∀ c, inl tb c = true → c ∈ l) → inl tb b = true → bput box (renT r tb) (r b) = (bget tb b).map (Bx.ren r)
  | [], _, h => by simp [inl] at h
  | p :: tb, hl, h => by
    simp only [renT, List.map_cons, bput, bget]
    by_cases hbp : b = p.1
    · subst hbp; simp
    · have hne : r b ≠ r p.1 := fun e => hbp (injN_spec hj hb (hl p.1 (by simp [inl])) e)
      rw [if_neg hne, if_neg hbp]
      have h' : inl tb b = true := by
        simp only [inl, List.any_cons, Bool.or_eq_true, beq_iff_eq] at h
        exact h.resolve_left fun e => hbp e.symm
      exact bput_renT hj hb (tb := tb) (fun c hc => hl c (by simp only [inl, List.any_cons, Bool.or_eq_true]; exact .inr hc)) h'

theorem bput_renT_not {r : Nat → Nat} {c : Nat} {tb : List (Nat × Option Bx)} (h : ∀ b, inl tb b = true → c ≠ r b) : bput box (renT r tb) c = box c := by
  refine bput_not fun x hx => ?_
  simp only [renT, List.mem_map] at hx
  obtain ⟨p, hp, he⟩ := hx
  injection he with h1 _
  exact h p.1 (inl_iff.2 ⟨p.2, hp⟩) h1.symm

/-- The name that comes to c. -/
def backN (r : Nat → Nat) (l : List Nat) (c : Nat) : Option Nat := l.find? fun b => r b == c

theorem backN_some {r : Nat → Nat} {l : List Nat} {b c : Nat} (h : backN r l c = some b) : b ∈ l ∧ r b = c := by
  have h1 := List.mem_of_find?_eq_some h
  have h2 := List.find?_some h
  exact ⟨h1, by simpa using h2⟩
theorem backN_of {r : Nat → Nat} {l m : List Nat} (hj : injN r m = true) (hlm : ∀ b, b ∈ l → b ∈ m) {b : Nat} (h : b ∈ l) : backN r l (r b) = some b := by
  cases hf : backN r l (r b) with
  | none =>
    unfold backN at hf
    rw [List.find?_eq_none] at hf
    have := hf b h
    simp at this
  | some c =>
    obtain ⟨h1, h2⟩ := backN_some hf
    rw [injN_spec hj (hlm c h1) (hlm b h) h2]
theorem names_mono {p q : Nat → Bool} (h : ∀ b, p b = true → q b = true) : ∀ {x : AV}, x.names p = true → x.names q = true
  | .v _, _ => by simp
  | .sl .., _ => by simp
  | .any, _ => by simp
  | .mp .., _ => by simp
  | .bit _, _ => by simp
  | .pp _, _ => by simp
  | .ptr b o, hx => by rw [names_ptr] at hx ⊢; exact h _ hx
  | .osl b k o n, hx => by rw [names_osl] at hx ⊢; exact h _ hx
  | .fn f l m, hx => by
    rw [names_fn, Bool.and_eq_true, List.all_eq_true, List.all_eq_true] at hx ⊢
    exact ⟨fun y hy => names_mono h (hx.1 y hy), fun y hy => names_mono h (hx.2 y hy)⟩
  | .agg l, hx => by
    rw [names_agg, List.all_eq_true] at hx ⊢
    exact fun y hy => names_mono h (hx y hy)
  | .tup l, hx => by
    rw [names_tup, List.all_eq_true] at hx ⊢
    exact fun y hy => names_mono h (hx y hy)
  | .iface t x, hx => by rw [names_iface] at hx ⊢; exact names_mono h hx
  | .iff c x, hx => by rw [names_iff] at hx ⊢; exact names_mono h hx

/-- The caller's names behind the call. -/
def backI (r : Nat → Nat) (news : List Nat) (ι ι1 : Nat → Option Nat) (c : Nat) : Option Nat := match backN r news c with | some b => ι1 b | none => ι c

theorem y_callB {o : Oper} {ρ : Operand → AV} {f : FuncId} {l args : List AV} {fp : List (Nat × Bx)} {tb : List (Nat × Option Bx)} {x : AV} (r : Nat → Nat) (ho : Enters P o ρ f l) (hc : Callable P f) (hF : FunB P f fp args x tb)
    (hl : l = args.map (AV.ren r)) (hn : args.all (AV.names (inl fp)) = true) (hof : okF fp = true) (hot : okT fp tb = true) (hx : x.names (fun b => inl fp b || inl tb b) = true) (hj : injN r (nmsF fp ++ nmsT tb) = true) :
    Yields P cx o ρ ⟨renF r fp, x.ren r, renT r tb⟩ := by
  intro ι box used a w hh _ hfp hfr hops K Q hK
  obtain ⟨vs, hex, hsz, hvs⟩ := ho hc ι _ a w hops
  have hin : ∀ b, inl fp b = true → b ∈ nmsF fp ++ nmsT tb := fun b h => List.mem_append_left _ (mem_nmsF.2 h)
  have hint : ∀ b, inl tb b = true → b ∈ nmsF fp ++ nmsT tb := fun b h => List.mem_append_right _ (mem_nmsT.2 h)
  have hbox : ∀ b y, bget (lives fp) b = some y → box (r b) = some (y.ren r) ∧ y.okN (inl fp) = true ∧ inl fp b = true := fun b y h => by
    have h1 := bget_lives h
    refine ⟨hfp _ _ (by simp only [renF, List.mem_map]; exact ⟨_, h1, rfl⟩), ?_, inl_iff.2 ⟨_, h1⟩⟩
    exact List.all_eq_true.1 hof _ h1
  let ι1 := cutTo (inl fp) r ι
  let M0 : Nat → Prop := fun g => Mof cx ι box g ∧ ¬ ∃ b, inl fp b = true ∧ ι1 b = some g
  let cB := bcx M0 ι1 fp w 0
  have hι1 : ∀ b g, ι1 b = some g → inl fp b = true ∧ ι (r b) = some g := fun b g h => by
    simp only [ι1, cutTo] at h
    split at h
    · rename_i hb; exact ⟨hb, h⟩
    · cases h
  have hι1' : ∀ b g, inl fp b = true → ι (r b) = some g → ι1 b = some g := fun b g hb h => by simp [ι1, cutTo, hb, h]
  have hM1 : ∀ g, Mof cB ι1 (bget (lives fp)) g → Mof cx ι box g := by
    rintro g (h | ⟨b, y, h1, h2⟩)
    · exact h.1
    · exact .inr ⟨r b, _, (hbox b y h1).1, (hι1 b g h2).2⟩
  have hG : ∀ g, cB.G g → ∃ b y, inl fp b = true ∧ ι1 b = some g ∧ bget (lives fp) b = some y := by
    rintro g ⟨b, h1, h2⟩
    obtain ⟨y, hy⟩ := bget_lives_of h1
    exact ⟨b, y, h1, h2, hy⟩
  have hown : ∀ b y g, bget (lives fp) b = some y → ι1 b = some g → (cx.base ≤ g ∨ cx.G g) ∧ ¬ cx.M0 g := fun b y g h1 h2 => by
    rcases hh.own _ _ (hbox b y h1).1 with ⟨-, h⟩ | ⟨g', e1, e2, e3, -⟩
    · rw [(hι1 b g h2).2] at h; cases h
    · rw [(hι1 b g h2).2] at e1; injection e1 with e1; subst e1; exact ⟨e2, e3⟩
  have hGM : ∀ g, cB.G g → Mof cx ι box g ∧ (cx.base ≤ g ∨ cx.G g) ∧ ¬ cx.M0 g := fun g h => by
    obtain ⟨b, y, h1, h2, h3⟩ := hG g h
    exact ⟨.inr ⟨r b, _, (hbox b y h3).1, (hι1 b g h2).2⟩, hown b y g h3 h2⟩
  have hB : HSat cB ι1 (bget (lives fp)) (fun b => inl fp b = true) w := by
    refine ⟨⟨rfl, rfl, rfl, Evo.refl w, Oth.refl w, fun _ _ _ => rfl⟩, fun g h => mof_lt hh h.1, fun b g h => (by simp only [cB, bcx] at h; split at h <;> first | exact h | cases h), fun b g h => ⟨(hι1 b g h).1, (hh.dom _ g (hι1 b g h).2).2⟩, fun b y h => (hbox b y h).2.2, fun b y h => ?_, fun b b' y y' g h1 h2 h3 h4 => ?_⟩
    · obtain ⟨h1, h2, h3⟩ := hbox b y h
      rcases hh.own _ _ h1 with ⟨e1, e2⟩ | ⟨g, e1, e2, e3, c, e4, e5, e6⟩
      · exact .inl ⟨by simpa [Bx.ren] using e1, by simp [ι1, cutTo, e2]⟩
      · refine .inr ⟨g, hι1' b g h3 e1, .inr ⟨b, h3, hι1' b g h3 e1⟩, fun h => h.2 ⟨b, h3, hι1' b g h3 e1⟩, c, e4, by simpa [Bx.ren] using e5, fun j v z hv hz => ?_⟩
        have := e6 j v (z.ren r) hv (by simp [Bx.ren, hz])
        refine ⟨this.1, (this.2.cut rfl (List.all_eq_true.1 h2 z (List.mem_of_getElem? hz))).less hM1⟩
    · obtain ⟨e1, e2, e3⟩ := hbox b y h1
      obtain ⟨f1, f2, f3⟩ := hbox b' y' h2
      exact injN_spec hj (hin b e3) (hin b' f3) (hh.inj _ _ _ _ g e1 f1 (hι1 b g h3).2 (hι1 b' g h4).2)
  have hcall := hF M0 ι1 w vs hB (by rw [hsz, hl]; simp) fun i v y hv hy => by
    have h1 := hvs i v (y.ren r) hv (by rw [hl]; simp [hy])
    exact (h1.cut rfl (List.all_eq_true.1 hn y (List.mem_of_getElem? hy))).less hM1
  unfold Oper.wp
  rw [hex, Oper.upon_enter]
  refine hcall.mono ?_
  rintro e w' ⟨v, ι2, rfl, hext, hs2, hoth, hv⟩
  let news := (nmsT tb).filter fun b => !inl fp b
  have hnews : ∀ b, b ∈ news ↔ inl tb b = true ∧ inl fp b = false := fun b => by simp [news, List.mem_filter, mem_nmsT]
  let ι3 := backI r news ι ι2
  have hι3n : ∀ b, inl tb b = true → inl fp b = false → ι3 (r b) = ι2 b := fun b h1 h2 => by
    have := backN_of (l := news) hj (fun c hc => hint c ((hnews c).1 hc).1) ((hnews b).2 ⟨h1, h2⟩)
    simp [ι3, backI, this]
  have hι3o : ∀ c, (∀ b, inl tb b = true → inl fp b = false → c ≠ r b) → ι3 c = ι c := fun c h => by
    cases hb : backN r news c with
    | none => simp [ι3, backI, hb]
    | some b =>
      obtain ⟨h1, h2⟩ := backN_some hb
      obtain ⟨h3, h4⟩ := (hnews b).1 h1
      exact absurd h2.symm (h b h3 h4)
  have hι3f : ∀ b, inl fp b = true → ι3 (r b) = ι (r b) := fun b h => hι3o _ fun b' h1 h2 e => by
    have := injN_spec hj (hin b h) (hint b' h1) e
    subst this; rw [h] at h2; cases h2
  have hι2f : ∀ b, inl fp b = true → ι2 b = ι (r b) := fun b h => by rw [hext b h]; simp [ι1, cutTo, h]
  have hnm : ∀ b, inl tb b = true → inl fp b = false → ¬ used (r b) := fun b h1 h2 => by
    obtain ⟨z, hz⟩ := inl_iff.1 h1
    have h3 := List.all_eq_true.1 hot _ hz
    cases z with
    | none => simp only at h3; rw [h2] at h3; cases h3
    | some z =>
      rcases hfr (r b) (z.ren r) (by simp only [renT, List.mem_map]; exact ⟨_, hz, rfl⟩) with ⟨y, hy⟩ | h
      · exfalso
        simp only [renF, List.mem_map] at hy
        obtain ⟨q, hq, he⟩ := hy
        injection he with he _
        have hq' : inl fp q.1 = true := inl_iff.2 ⟨q.2, hq⟩
        have := injN_spec hj (hin q.1 hq') (hint b h1) he
        rw [this] at hq'; rw [hq'] at h2; cases h2
      · exact h
  have hTd : ∀ c, (∃ b, inl tb b = true ∧ c = r b) ∨ ∀ b, inl tb b = true → c ≠ r b := fun c => by
    by_cases h : ∃ b, inl tb b = true ∧ c = r b
    · exact .inl h
    · exact .inr fun b h1 h2 => h ⟨b, h1, h2⟩
  have cls : ∀ c z, bput box (renT r tb) c = some z → (∃ b y, c = r b ∧ z = y.ren r ∧ bget (tb ++ lives fp) b = some y ∧ ι3 c = ι2 b ∧ y.okN (fun b => inl fp b || inl tb b) = true ∧ (inl fp b = true ∨ inl tb b = true)) ∨ (box c = some z ∧ ι3 c = ι c ∧ ∀ b, inl fp b = true → c ≠ r b) := by
    intro c z h
    have hi3 : ∀ b, inl fp b = true ∨ inl tb b = true → ι3 (r b) = ι2 b := fun b hb => by
      by_cases hf : inl fp b = true
      · rw [hι3f b hf, hι2f b hf]
      · exact hι3n b (hb.resolve_left hf) (by simpa using hf)
    rcases hTd c with ⟨b, hb, rfl⟩ | hno
    · rw [bput_renT hj (hint b hb) hint hb] at h
      obtain ⟨y, hy, rfl⟩ := Option.map_eq_some_iff.1 h
      refine .inl ⟨b, y, rfl, rfl, by rw [bget_app, if_pos hb]; exact hy, hi3 b (.inr hb), ?_, .inr hb⟩
      obtain ⟨r', hr'⟩ := bget_in hy
      have key : ∀ l : Boxes, bget l b = some y → (b, some y) ∈ l := by
        intro l
        induction l with
        | nil => intro h; simp [bget, bput] at h
        | cons p l ih =>
          intro h
          simp only [bget, bput] at h
          by_cases hbp : b = p.1
          · subst hbp; simp at h; rw [← h]; simp
          · rw [if_neg hbp] at h; exact List.mem_cons_of_mem _ (ih h)
      exact List.all_eq_true.1 hot _ (key tb hy)
    · rw [bput_renT_not hno] at h
      by_cases hf : ∃ b, inl fp b = true ∧ c = r b
      · obtain ⟨b, hb, rfl⟩ := hf
        obtain ⟨y, hy⟩ := bget_lives_of hb
        obtain ⟨h1, h2, h3⟩ := hbox b y hy
        rw [h1] at h
        injection h with h
        have hnt : inl tb b ≠ true := fun h => hno b h rfl
        refine .inl ⟨b, y, rfl, h.symm, by rw [bget_app, if_neg hnt]; exact hy, hi3 b (.inl hb), ?_, .inl hb⟩
        refine List.all_eq_true.2 fun q hq => ?_
        have h4 := List.all_eq_true.1 h2 q hq
        exact names_mono (fun b hb => by simp [hb]) h4
      · refine .inr ⟨h, hι3o c fun b h1 _ e => hno b h1 e, fun b h1 h2 => hf ⟨b, h1, h2⟩⟩
  have hM3 : ∀ g, Mof cx ι3 (bput box (renT r tb)) g → Mof cB ι2 (bget (tb ++ lives fp)) g := by
    rintro g (h | ⟨c, z, h1, h2⟩)
    · exact .inl ⟨.inl h, fun ⟨b, e1, e2⟩ => (hGM g ⟨b, e1, e2⟩).2.2 h⟩
    · rcases cls c z h1 with ⟨b, y, rfl, rfl, e1, e2, e3, e4⟩ | ⟨e1, e2, e3⟩
      · exact .inr ⟨b, y, e1, by rw [← e2]; exact h2⟩
      · rw [e2] at h2
        refine .inl ⟨.inr ⟨c, z, e1, h2⟩, fun ⟨b, f1, f2⟩ => ?_⟩
        obtain ⟨y, hy⟩ := bget_lives_of f1
        exact e3 b f1 (hh.inj c (r b) _ _ g e1 (hbox b y hy).1 h2 (hι1 b g f2).2)
  have hkeepT : ∀ v y, y.names (fun b => inl fp b || inl tb b) = true → RepA ι2 (Mof cB ι2 (bget (tb ++ lives fp))) w' v y → RepA ι3 (Mof cx ι3 (bput box (renT r tb))) w' v (y.ren r) := fun v y hy h => by
    refine h.turn (p := fun b => inl fp b || inl tb b) (fun b g hb h => ?_) hM3 hy
    simp only [Bool.or_eq_true] at hb
    by_cases hf : inl fp b = true
    · rw [hι3f b hf, ← hι2f b hf]; exact h
    · rw [hι3n b (hb.resolve_left hf) (by simpa using hf)]; exact h
  have hsame : ∀ g, g < w.heap.size → ¬ cB.G g → w'.heap[g]? = w.heap[g]? := fun g h1 h2 => hs2.wi.block g h1 h2
  have hM3' : ∀ g, g < w.heap.size → Mof cx ι3 (bput box (renT r tb)) g → Mof cx ι box g := by
    rintro g hg h
    rcases hM3 g h with h | ⟨b, y, h1, h2⟩
    · exact h.1
    · rcases hs2.own b y h1 with ⟨-, e⟩ | ⟨g', e1, e2, -⟩
      · rw [h2] at e; cases e
      · rw [h2] at e1; injection e1 with e1; subst e1
        rcases e2 with e2 | e2
        · have : w.heap.size ≤ g := e2
          omega
        · exact (hGM g e2).1
  have hnone : ∀ b, inl tb b = true → inl fp b = false → ι (r b) = none := fun b h1 h2 => by
    cases h : ι (r b) with
    | none => rfl
    | some g => exact absurd (hh.dom _ g h).1 (hnm b h1 h2)
  have hιk : ∀ c g, ι c = some g → ι3 c = some g := fun c g h => by
    rw [hι3o c fun b h1 h2 e => by rw [e, hnone b h1 h2] at h; cases h]; exact h
  have hkeep : ∀ v y, RepA ι (Mof cx ι box) w v y → RepA ι3 (Mof cx ι3 (bput box (renT r tb))) w' v y := fun v y h =>
    h.keep hιk hM3' hs2.wi.evo fun g h1 h2 => hsame g h1 fun hg => h2 (hGM g hg).1
  refine hK v ι3 w' ⟨⟨⟨hs2.wi.os.trans hh.wi.os, hs2.wi.tape.trans hh.wi.tape, hs2.wi.output.trans hh.wi.output, hh.wi.evo.trans hs2.wi.evo, hh.wi.oth.trans hoth, fun k hk hG => ?_⟩, hh.m0, fun b g h => hιk b g (hh.fix b g h), fun c g hc => ?_, fun c z hz => ?_, fun c z hz => ?_, fun c c' z z' g h1 h2 h3 h4 => ?_⟩, hkeep, hoth⟩ (hkeepT v x hx hv)
  · have h1 := hh.wi.evo.size
    rw [hsame k (Nat.lt_of_lt_of_le hk h1) fun hg => ?_]
    · exact hh.wi.block k hk hG
    · rcases (hGM k hg).2.1 with h | h
      · omega
      · exact hG h
  · have h1 : w.heap.size ≤ w'.heap.size := hs2.wi.evo.size
    by_cases hb : ∃ b, inl tb b = true ∧ inl fp b = false ∧ c = r b
    · obtain ⟨b, e1, e2, rfl⟩ := hb
      rw [hι3n b e1 e2] at hc
      exact ⟨.inr (by obtain ⟨z, hz⟩ := inl_iff.1 e1; exact ⟨z.map (Bx.ren r), by simp only [renT, List.mem_map]; exact ⟨_, hz, rfl⟩⟩), (hs2.dom b g hc).2⟩
    · rw [hι3o c fun b e1 e2 e => hb ⟨b, e1, e2, e⟩] at hc
      exact ⟨.inl (hh.dom c g hc).1, Nat.lt_of_lt_of_le (hh.dom c g hc).2 h1⟩
  · rcases cls c z hz with ⟨b, y, rfl, rfl, e1, e2, e3, e4⟩ | ⟨e1, e2, e3⟩
    · by_cases ht : inl tb b = true
      · exact .inr (by obtain ⟨z, hz⟩ := inl_iff.1 ht; exact ⟨z.map (Bx.ren r), by simp only [renT, List.mem_map]; exact ⟨_, hz, rfl⟩⟩)
      · have hf := e4.resolve_right ht
        obtain ⟨y', hy'⟩ := bget_lives_of hf
        exact .inl (hh.ub _ _ (hbox b y' hy').1)
    · exact .inl (hh.ub _ _ e1)
  · rcases cls c z hz with ⟨b, y, rfl, rfl, e1, e2, e3, e4⟩ | ⟨e1, e2, e3⟩
    · rcases hs2.own b y e1 with ⟨f1, f2⟩ | ⟨g, f1, f2, f3, d, f4, f5, f6⟩
      · exact .inl ⟨by simp [Bx.ren, f1], by rw [e2, f2]⟩
      · refine .inr ⟨g, by rw [e2]; exact f1, ?_, ?_, d, f4, by simpa [Bx.ren] using f5, fun j u q hu hq => ?_⟩
        · rcases f2 with f2 | f2
          · have h1 := hh.wi.evo.size
            have : w.heap.size ≤ g := f2
            exact .inl (by simp only [Cx.base] at h1 ⊢; omega)
          · exact (hGM g f2).2.1
        · intro hm
          rcases f2 with f2 | f2
          · have h1 := hh.wi.evo.size
            have h2 := hh.m0 g hm
            have : w.heap.size ≤ g := f2
            simp only [Cx.base] at h2
            omega
          · exact (hGM g f2).2.2 hm
        · simp only [Bx.ren, List.getElem?_map, Option.map_eq_some_iff] at hq
          obtain ⟨q', hq', rfl⟩ := hq
          have := f6 j u q' hu hq'
          exact ⟨this.1, hkeepT u q' (List.all_eq_true.1 e3 q' (List.mem_of_getElem? hq')) this.2⟩
    · rcases hh.own c z e1 with ⟨f1, f2⟩ | ⟨g, f1, f2, f3, d, f4, f5, f6⟩
      · exact .inl ⟨f1, by rw [e2, f2]⟩
      · refine .inr ⟨g, by rw [e2]; exact f1, f2, f3, d, ?_, f5, fun j u q hu hq => ⟨(f6 j u q hu hq).1, hkeep _ _ (f6 j u q hu hq).2⟩⟩
        rw [hsame g (hh.dom c g f1).2 fun hg => ?_]
        · exact f4
        · obtain ⟨b, y, g1, g2, g3⟩ := hG g hg
          exact e3 b g1 (hh.inj c (r b) _ _ g e1 (hbox b y g3).1 f1 (hι1 b g g2).2)
  · have two : ∀ (c c' : Nat) (z z' : Bx) (b : Nat) (y : Bx), c = r b → bget (tb ++ lives fp) b = some y → ι3 c = ι2 b → box c' = some z' → ι3 c' = ι c' → (∀ b, inl fp b = true → c' ≠ r b) → ι3 c = some g → ι3 c' = some g → False := by
      intro c c' z z' b y hcb e1 e2 f1 f2 f3 h3 h4
      rw [f2] at h4
      rw [e2] at h3
      have hg := (hh.dom c' g h4).2
      rcases hs2.own b y e1 with ⟨-, e⟩ | ⟨g', k1, k2, -⟩
      · rw [h3] at e; cases e
      · rw [h3] at k1; injection k1 with k1; subst k1
        rcases k2 with k2 | k2
        · have : w.heap.size ≤ g := k2
          omega
        · obtain ⟨d, y', g1, g2, g3⟩ := hG g k2
          exact f3 d g1 (hh.inj c' (r d) _ _ g f1 (hbox d y' g3).1 h4 (hι1 d g g2).2)
    rcases cls c z h1 with ⟨b, y, hcb, hzy, e1, e2, e3, e4⟩ | ⟨e1, e2, e3⟩ <;> rcases cls c' z' h2 with ⟨b', y', hcb', hzy', f1, f2, f3, f4⟩ | ⟨f1, f2, f3⟩
    · rw [hcb, hcb', hs2.inj b b' y y' g e1 f1 (by rw [← e2]; exact h3) (by rw [← f2]; exact h4)]
    · exact (two c c' z z' b y hcb e1 e2 f1 f2 f3 h3 h4).elim
    · exact (two c' c z' z b' y' hcb' f1 f2 e1 e2 e3 h4 h3).elim
    · rw [e2] at h3; rw [f2] at h4; exact hh.inj c c' z z' g e1 f1 h3 h4
/-! ### From the body -/

/-- A result is handed back as it is, or as plain data. -/
def FrzX (fp : List (Nat × Bx)) (y x : AV) : Prop := y = x ∨ Frz fp y x

inductive RessB (P : Program) (A : AS) (fp : List (Nat × Bx)) : Array ResultVar → AV → Prop
  | none : RessB P A fp #[] (.tup [])
  | one {r : ResultVar} {y x : AV} (h : ResIs P A r y) (hx : FrzX fp y x) : RessB P A fp #[r] x
  | two {r s : ResultVar} {y z x x' : AV} (h : ResIs P A r y) (h2 : ResIs P A s z) (hx : FrzX fp y x) (hx2 : FrzX fp z x') : RessB P A fp #[r, s] (.tup [x, x'])
  | three {r s t : ResultVar} {y z u x x' x'' : AV} (h : ResIs P A r y) (h2 : ResIs P A s z) (h3 : ResIs P A t u) (hx : FrzX fp y x) (hx2 : FrzX fp z x') (hx3 : FrzX fp u x'') : RessB P A fp #[r, s, t] (.tup [x, x', x''])

theorem ren_id : ∀ (x : AV), x.ren id = x
  | .v _ => by simp
  | .sl .. => by simp
  | .any => by simp
  | .mp .. => by simp
  | .bit _ => by simp
  | .pp _ => by simp
  | .ptr b o => by simp
  | .osl b k o n => by simp
  | .fn f l m => by
    rw [ren_fn]
    have h1 : l.map (AV.ren id) = l := by rw [List.map_congr_left fun x hx => ren_id x]; simp
    have h2 : m.map (AV.ren id) = m := by rw [List.map_congr_left fun x hx => ren_id x]; simp
    rw [h1, h2]
  | .agg l => by
    rw [ren_agg]
    have h1 : l.map (AV.ren id) = l := by rw [List.map_congr_left fun x hx => ren_id x]; simp
    rw [h1]
  | .tup l => by
    rw [ren_tup]
    have h1 : l.map (AV.ren id) = l := by rw [List.map_congr_left fun x hx => ren_id x]; simp
    rw [h1]
  | .iface t x => by rw [ren_iface, ren_id x]
  | .iff c x => by rw [ren_iff, ren_id x]

def EndsB (P : Program) (fn : Func) (fp : List (Nat × Bx)) (x : AV) (tb : List (Nat × Option Bx)) : Exit → AS → Prop
  | .normal, A | .ret, A => ∃ fz, RessB P A fz fn.results x ∧ (∀ b x, (b, x) ∈ fz → A.box b = some x ∧ inl (tb ++ lives fp) b = false) ∧ (∀ b y, bget (tb ++ lives fp) b = some y → A.box b = some y) ∧ okT fp tb = true ∧ x.names (fun b => inl fp b || inl tb b) = true
  | _, _ => False

theorem funB_of {f : FuncId} {fn : Func} {c : Code} {fp : List (Nat × Bx)} {args : List AV} {x : AV} {tb : List (Nat × Option Bx)} (hf : P.funcs[f]? = some fn) (hb : fn.body = some c) (hn : args.length ≤ fn.ntmps) (hne : fp.all (fun p => !p.2.cs.isEmpty) = true) (hof : okF fp = true) (n : Nat) (hnm : fp.all (fun p => decide (p.1 < n)) = true)
    (h : ∀ cx : Cx, cx.N = fn.ntmps → cx.R = none → (∀ b g, cx.F b = some g → inl fp b = true) → (args.all AV.lens = true ∧ ∀ b x, bget (lives fp) b = some x → x.cs.all AV.lens = true) → AWp P cx c (EndsB P fn fp x tb) ⟨argsEnv args, bget (lives fp), fun b => b < n⟩) : FunB P f fp args x tb := by
  intro M0 ι w vs hH hsz hvs
  refine fen_calls.1 (callsIn_of_wp_marks (F := fen none) (n := 9) hf hb trivial ?_ rfl)
  let cx : Cx := bcx M0 ι fp w fn.ntmps
  have hMe : ∀ (ι' : Nat → Option Nat) (bx : Nat → Option Bx) g, Mof cx ι' bx g ↔ Mof (bcx M0 ι fp w 0) ι' bx g := fun _ _ _ => Iff.rfl
  have hH' : HSat cx ι (bget (lives fp)) (fun b => b < n) w := by
    have h1 : HSat cx ι (bget (lives fp)) (fun b => inl fp b = true) w := ⟨⟨hH.wi.os, hH.wi.tape, hH.wi.output, hH.wi.evo, hH.wi.oth, hH.wi.block⟩, hH.m0, hH.fix, hH.dom, hH.ub, hH.own, hH.inj⟩
    exact h1.used_mono fun b hb => by
      obtain ⟨x, hx⟩ := inl_iff.1 hb
      simpa using List.all_eq_true.1 hnm _ hx
  have hs : Sat cx ι ⟨argsEnv args, bget (lives fp), fun b => b < n⟩ { tmps := vs ++ Array.replicate (fn.ntmps - vs.size) undef, defers := [] } w := by
    refine ⟨hH', ?_, trivial, ?_⟩
    · show (vs ++ Array.replicate (fn.ntmps - vs.size) undef).size = fn.ntmps
      simp
      omega
    · intro t
      show RepA _ _ w ((vs ++ Array.replicate (fn.ntmps - vs.size) undef).getD t undef) (args.getD t .any)
      by_cases ht : t < args.length
      · have h1 : t < vs.size := by omega
        have h2 := hvs t vs[t] args[t] (Array.getElem?_eq_getElem h1) (List.getElem?_eq_getElem ht)
        rw [Array.getD_eq_getD_getElem?, Array.getElem?_append_left h1, Array.getElem?_eq_getElem h1]
        simp only [Option.getD_some]
        rw [show args.getD t .any = args[t] by simp [List.getD, ht]]
        exact h2
      · rw [show args.getD t .any = .any by simp [List.getD, List.getElem?_eq_none (Nat.le_of_not_lt ht)]]
        exact .any _
  have hlen : (args.all AV.lens = true ∧ ∀ b x, bget (lives fp) b = some x → x.cs.all AV.lens = true) := by
    refine ⟨all_of_get fun i y hy => (hvs i _ y (Array.getElem?_eq_getElem (by have := (List.getElem?_eq_some_iff.1 hy).1; omega)) hy).lens, ?_⟩
    intro b x hx
    refine all_of_get fun i y hy => ?_
    have hne' : x.cs ≠ [] := by rintro e; rw [e] at hy; simp at hy
    obtain ⟨g, -, -, -, c, -, hlc, hcc⟩ := hH'.ne hx hne'
    have hlt := (List.getElem?_eq_some_iff.1 hy).1
    exact (hcc i _ y (Array.getElem?_eq_getElem (by omega)) hy).2.lens
  refine wpIn_mono (h cx rfl rfl (fun b g hb => by simp only [cx, bcx] at hb; split at hb <;> first | assumption | cases hb) hlen _ _ w hs) ?_
  rintro e a' w' ⟨ι', A', hs', he⟩
  have key : (∃ fz, RessB P A' fz fn.results x ∧ (∀ b x, (b, x) ∈ fz → A'.box b = some x ∧ inl (tb ++ lives fp) b = false) ∧ (∀ b y, bget (tb ++ lives fp) b = some y → A'.box b = some y) ∧ okT fp tb = true ∧ x.names (fun b => inl fp b || inl tb b) = true) → LeavesInM (fen none) 9 P fn a'.tmps (fun e w' => ∃ v ι', e = .returned v ∧ (∀ b, inl fp b = true → ι' b = ι b) ∧ HSat (bcx M0 ι fp w 0) ι' (bget (tb ++ lives fp)) (fun b => inl fp b = true ∨ inl tb b = true) w' ∧ Oth w w' ∧
      RepA ι' (Mof (bcx M0 ι fp w 0) ι' (bget (tb ++ lives fp))) w' v x) a'.defers .returning w' := by
    rintro ⟨fz, hr, hfz, hbx, hot, hxn⟩
    refine leaves_marks _ _ hs'.h hs'.defers hs'.env fun w1 hs1 henv => ?_
    let p : Nat → Bool := fun b => inl fp b || inl tb b
    let ι2 := cutTo p id ι'
    have hι2 : ∀ b g, ι2 b = some g → p b = true ∧ ι' b = some g := fun b g h => by
      simp only [ι2, cutTo, id] at h
      split at h
      · rename_i hb; exact ⟨hb, h⟩
      · cases h
    have hM2 : ∀ g, Mof (bcx M0 ι fp w 0) ι2 (bget (tb ++ lives fp)) g → Mof cx ι' A'.box g := by
      rintro g (h | ⟨b, y, h1, h2⟩)
      · exact .inl h
      · exact .inr ⟨b, y, hbx b y h1, (hι2 b g h2).2⟩
    have hM2k : ∀ g, Mof (bcx M0 ι fp w 0) ι2 (bget (tb ++ lives fp)) g → Mof cx ι' (bput A'.box (kills fz)) g := by
      rintro g (h | ⟨b, y, h1, h2⟩)
      · exact .inl h
      · refine .inr ⟨b, y, ?_, (hι2 b g h2).2⟩
        rw [bput_not (tb := kills fz) fun r hr => ?_]
        · exact hbx b y h1
        · simp only [kills, List.mem_map] at hr
          obtain ⟨q, hq, he⟩ := hr
          injection he with he _
          have := (hfz q.1 q.2 hq).2
          rw [he] at this
          obtain ⟨r2, h3⟩ := bget_in h1
          rw [inl_iff.2 ⟨_, h3⟩] at this
          cases this
    have hcutv : ∀ v y, y.names p = true → RepA ι' (Mof cx ι' A'.box) w1 v y → RepA ι2 (Mof (bcx M0 ι fp w 0) ι2 (bget (tb ++ lives fp))) w1 v y := fun v y hy h =>
      (h.cut (ren_id y).symm hy).less hM2
    have hpb : ∀ b y, bget (tb ++ lives fp) b = some y → p b = true ∧ y.okN p = true := fun b y h => by
      rw [bget_app] at h
      split at h
      · rename_i ht
        refine ⟨by simp [p, ht], ?_⟩
        have key : ∀ l : Boxes, bget l b = some y → (b, some y) ∈ l := by
          intro l
          induction l with
          | nil => intro h; simp [bget, bput] at h
          | cons q l ih =>
            intro h
            simp only [bget, bput] at h
            by_cases hbp : b = q.1
            · subst hbp; simp at h; rw [← h]; simp
            · rw [if_neg hbp] at h; exact List.mem_cons_of_mem _ (ih h)
        exact List.all_eq_true.1 hot _ (key tb h)
      · have h1 := bget_lives h
        refine ⟨by simp [p, inl_iff.2 ⟨_, h1⟩], List.all_eq_true.2 fun q hq => names_mono (fun b hb => by simp [p, hb]) (List.all_eq_true.1 (List.all_eq_true.1 hof _ h1) q hq)⟩
    have hfin : ∀ v y x, x.names p = true → FrzX fz y x → RepA ι' (Mof cx ι' A'.box) w1 v y → RepA ι2 (Mof (bcx M0 ι fp w 0) ι2 (bget (tb ++ lives fp))) w1 v x := by
      intro v y x hxn h hv
      rcases h with rfl | h
      · exact hcutv v y hxn hv
      · exact .d ((frz_rep hs1 (fun b x hb => (hfz b x hb).1) h hv).keep (fun g _ h => hM2k g h) (Nat.le_refl _) fun _ _ _ => rfl)
    have hres : ∃ v, (results fn a'.tmps).run P w1 = .ok v w1 ∧ RepA ι2 (Mof (bcx M0 ι fp w 0) ι2 (bget (tb ++ lives fp))) w1 v x := by
      rw [results_eq]
      generalize fn.results = rs at hr
      cases hr with
      | none => exact ⟨.tuple #[], by simp, .tup rfl (by simp)⟩
      | one h hx =>
        obtain ⟨v, h1, h2⟩ := run_res hs1 henv h
        exact ⟨v, by simp [h1], hfin v _ _ hxn hx h2⟩
      | two k1 k2 x1 x2 =>
        obtain ⟨v, h1, h2⟩ := run_res hs1 henv k1
        obtain ⟨v', h1', h2'⟩ := run_res hs1 henv k2
        simp only [names_tup, List.all_cons, List.all_nil, Bool.and_true, Bool.and_eq_true] at hxn
        refine ⟨.tuple #[v, v'], by simp [h1, h1'], .tup rfl ?_⟩
        intro i x y hx1 hy1
        rcases i with _ | _ | i
        · simp at hx1 hy1; subst hx1 hy1; exact hfin v _ _ hxn.1 x1 h2
        · simp at hx1 hy1; subst hx1 hy1; exact hfin v' _ _ hxn.2 x2 h2'
        · simp at hy1
      | three k1 k2 k3 x1 x2 x3 =>
        obtain ⟨v, h1, h2⟩ := run_res hs1 henv k1
        obtain ⟨v', h1', h2'⟩ := run_res hs1 henv k2
        obtain ⟨v'', h1'', h2''⟩ := run_res hs1 henv k3
        simp only [names_tup, List.all_cons, List.all_nil, Bool.and_true, Bool.and_eq_true] at hxn
        refine ⟨.tuple #[v, v', v''], by simp [h1, h1', h1''], .tup rfl ?_⟩
        intro i x y hx1 hy1
        rcases i with _ | _ | _ | i
        · simp at hx1 hy1; subst hx1 hy1; exact hfin v _ _ hxn.1 x1 h2
        · simp at hx1 hy1; subst hx1 hy1; exact hfin v' _ _ hxn.2.1 x2 h2'
        · simp at hx1 hy1; subst hx1 hy1; exact hfin v'' _ _ hxn.2.2 x3 h2''
        · simp at hy1
    obtain ⟨v, hrun, hv⟩ := hres
    refine ⟨v, hrun, v, ι2, rfl, fun b hb => ?_, ⟨⟨hs1.wi.os, hs1.wi.tape, hs1.wi.output, hs1.wi.evo, hs1.wi.oth, hs1.wi.block⟩, hs1.m0, fun b g hb => ?_, fun b g hb => ?_, fun b y hb => ?_, fun b y hb => ?_, fun b b' y y' g h1 h2 h3 h4 => ?_⟩, ?_, hv⟩
    · obtain ⟨y, hy⟩ := bget_lives_of hb
      have hyne : y.cs ≠ [] := by
        have := List.all_eq_true.1 hne _ (bget_lives hy)
        simpa using this
      obtain ⟨g, hg, -⟩ := hH.ne hy hyne
      have h1 := hs1.fix b g (by simp [cx, bcx, hb, hg])
      simp [ι2, cutTo, p, hb, h1, hg]
    · have h1 := hs1.fix b g hb
      simp only [bcx] at hb
      split at hb
      · rename_i hb'; simp [ι2, cutTo, p, hb', h1]
      · cases hb
    · obtain ⟨h1, h2⟩ := hι2 b g hb
      exact ⟨by simpa [p] using h1, (hs1.dom b g h2).2⟩
    · have := (hpb b y hb).1
      simpa [p] using this
    · rcases hs1.own b y (hbx b y hb) with ⟨h1, h2⟩ | ⟨g, h1, h2, h3, d, h4, h5, h6⟩
      · exact .inl ⟨h1, by simp [ι2, cutTo, h2]⟩
      · obtain ⟨hp, hyk⟩ := hpb b y hb
        refine .inr ⟨g, by simp [ι2, cutTo, hp, h1], h2, h3, d, h4, h5, fun j u q hu hq => ⟨(h6 j u q hu hq).1, hcutv u q (List.all_eq_true.1 hyk q (List.mem_of_getElem? hq)) (h6 j u q hu hq).2⟩⟩
    · exact hs1.inj b b' y y' g (hbx b y h1) (hbx b' y' h2) (hι2 b g h3).2 (hι2 b' g h4).2
    · exact hs1.wi.oth
  cases e with
  | normal => exact key he
  | ret => exact key he
  | _ => exact he.elim
end

end Go.Proofs.YtkonljmmdifnaaaGreat.V
set_option linter.unusedSimpArgs false
set_option linter.unusedVariables false
namespace Go.Proofs.YtkonljmmdifnaaaGreat.V
open Go.RowKit

section
variable {P : Program} {cx : Cx}

/-- The boxes that are given up: all but these. -/
def restB (tb keep : Boxes) : Boxes := (keep.map fun p => (p.1, none)) ++ tb

def fzX (box : Boxes) (y x : AV) : Prop := y = x ∨ fzA box y x

/-- What the boxes must hold at the end. -/
def endB (box : Boxes) : Boxes → Prop
  | [] => True
  | (b, some y) :: l => bget box b = some y ∧ endB box l
  | (_, none) :: l => endB box l

def keptB (tb : List (Nat × Option Bx)) (fp : List (Nat × Bx)) : Boxes := tb ++ lives (fp.filter fun p => !inl tb p.1)

def LEndsB (P : Program) (rs : Array ResultVar) (fp : List (Nat × Bx)) (x : AV) (tb : List (Nat × Option Bx)) : Exit → LS → Prop
  | .normal, A | .ret, A => (endB A.box (keptB tb fp) ∧ okT fp tb = true ∧ x.names (fun b => inl fp b || inl tb b) = true) ∧ match rs.toList, x with
    | [], .tup [] => True
    | [r], x => resW P A.env A.box r fun y => fzX (restB A.box (tb ++ lives fp)) y x
    | [r, s], .tup [x, x'] => resW P A.env A.box r fun y => fzX (restB A.box (tb ++ lives fp)) y x ∧ resW P A.env A.box s fun y => fzX (restB A.box (tb ++ lives fp)) y x'
    | [r, s, t], .tup [x, x', x''] => resW P A.env A.box r fun y => fzX (restB A.box (tb ++ lives fp)) y x ∧ resW P A.env A.box s fun y => fzX (restB A.box (tb ++ lives fp)) y x' ∧ resW P A.env A.box t fun y => fzX (restB A.box (tb ++ lives fp)) y x''
    | _, _ => False
  | _, _ => False

theorem endB_spec {box : Boxes} {b : Nat} {y : Bx} : ∀ {l : Boxes}, endB box l → bget l b = some y → bget box b = some y
  | [], _, h => by simp [bget, bput] at h
  | (c, some z) :: l, h, hy => by
    simp only [bget, bput] at hy
    by_cases hb : b = c
    · subst hb; simp at hy; subst hy; exact h.1
    · rw [if_neg hb] at hy; exact endB_spec h.2 hy
  | (c, none) :: l, h, hy => by
    simp only [bget, bput] at hy
    by_cases hb : b = c
    · subst hb; simp at hy
    · rw [if_neg hb] at hy; exact endB_spec (l := l) h hy

theorem bget_filter {tb : List (Nat × Option Bx)} {b : Nat} (h : inl tb b = false) : ∀ {fp : List (Nat × Bx)}, bget (lives (fp.filter fun p => !inl tb p.1)) b = bget (lives fp) b
  | [] => rfl
  | p :: l => by
    by_cases hb : b = p.1
    · subst hb
      rw [List.filter_cons_of_pos (by simp [h])]
      simp [lives, bget, bput]
    · by_cases hp : inl tb p.1 = true
      · rw [List.filter_cons_of_neg (by simp [hp])]
        have := bget_filter h (fp := l)
        simp only [lives, List.map_cons, bget, bput, if_neg hb] at this ⊢
        exact this
      · rw [List.filter_cons_of_pos (by simp [hp])]
        have := bget_filter h (fp := l)
        simp only [lives, List.map_cons, bget, bput, if_neg hb] at this ⊢
        exact this

theorem restB_live {box keep : Boxes} {b : Nat} {x : Bx} (h : bget (restB box keep) b = some x) : bget box b = some x ∧ inl keep b = false := by
  unfold restB at h
  rw [bget_app] at h
  have key : ∀ keep : Boxes, inl (keep.map fun p => (p.1, (none : Option Bx))) b = inl keep b ∧ bget (keep.map fun p => (p.1, (none : Option Bx))) b = none := by
    intro keep
    induction keep with
    | nil => exact ⟨rfl, rfl⟩
    | cons p l ih =>
      refine ⟨by simp only [inl, List.map_cons, List.any_cons] at ih ⊢; rw [ih.1], ?_⟩
      simp only [List.map_cons, bget, bput]
      split
      · rfl
      · exact ih.2
  rw [(key keep).1, (key keep).2] at h
  split at h
  · cases h
  · rename_i hb; exact ⟨h, by simpa using hb⟩

theorem LEndsB_sound {rs : Array ResultVar} {fp : List (Nat × Bx)} {x : AV} {tb : List (Nat × Option Bx)} {A : LS} (h : LEndsB P rs fp x tb .ret A) : ∃ fz, RessB P A.toAS fz rs x ∧ (∀ b x, (b, x) ∈ fz → A.toAS.box b = some x ∧ inl (tb ++ lives fp) b = false) ∧
    (∀ b y, bget (tb ++ lives fp) b = some y → A.toAS.box b = some y) ∧ okT fp tb = true ∧ x.names (fun b => inl fp b || inl tb b) = true := by
  obtain ⟨⟨h1, h2, h3⟩, h⟩ := h
  have hfz : ∀ b x, (b, x) ∈ liveOf (restB A.box (tb ++ lives fp)) (restB A.box (tb ++ lives fp)) → A.toAS.box b = some x ∧ inl (tb ++ lives fp) b = false := fun b x h => restB_live (liveOf_spec h)
  have hbx : ∀ b y, bget (tb ++ lives fp) b = some y → A.toAS.box b = some y := fun b y hb => by
    refine endB_spec h1 ?_
    unfold keptB
    rw [bget_app] at hb ⊢
    split
    · rename_i ht; rw [if_pos ht] at hb; exact hb
    · rename_i ht; rw [if_neg ht] at hb; rw [bget_filter (by simpa using ht)]; exact hb
  have hX : ∀ y x, fzX (restB A.box (tb ++ lives fp)) y x → FrzX (liveOf (restB A.box (tb ++ lives fp)) (restB A.box (tb ++ lives fp))) y x := fun y x h => h.imp id fzA_sound
  have hrs : ∀ l, rs.toList = l → rs = l.toArray := fun l h => by rw [← h]
  refine ⟨_, ?_, hfz, hbx, h2, h3⟩
  split at h
  · rename_i e1; rw [hrs _ e1]; exact .none
  · rename_i r x e1
    rw [hrs _ e1]
    obtain ⟨y, k1, k2⟩ := resW_sound (n := A.next) h
    exact .one k1 (hX _ _ k2)
  · rename_i r s x x' e1
    rw [hrs _ e1]
    obtain ⟨y, k1, k2, k3⟩ := resW_sound (n := A.next) h
    obtain ⟨y', k4, k5⟩ := resW_sound (n := A.next) k3
    exact .two k1 k4 (hX _ _ k2) (hX _ _ k5)
  · rename_i r s t x x' x'' e1
    rw [hrs _ e1]
    obtain ⟨y, k1, k2, k3⟩ := resW_sound (n := A.next) h
    obtain ⟨y', k4, k5, k6⟩ := resW_sound (n := A.next) k3
    obtain ⟨y'', k7, k8⟩ := resW_sound (n := A.next) k6
    exact .three k1 k4 k7 (hX _ _ k2) (hX _ _ k5) (hX _ _ k8)
  · exact h.elim

theorem fun_WB {f : FuncId} {fn : Func} {c : Code} {fp : List (Nat × Bx)} {args : List AV} {x : AV} {tb : List (Nat × Option Bx)} (n : Nat) (hm : P.follows .mixedOrders = true) (hf : P.funcs[f]? = some fn) (hb : fn.body = some c) (hn : args.length ≤ fn.ntmps) (hok : bodyOK fn.ntmps c = true)
    (hfp : (fp.all (fun p => !p.2.cs.isEmpty) && okF fp && fp.all (fun p => decide (p.1 < n))) = true)
    (h : ∀ cx : Cx, cx.N = fn.ntmps → cx.R = none → (∀ b g, cx.F b = some g → inl fp b = true) → (args.all AV.lens = true ∧ ∀ b x, bget (lives fp) b = some x → x.cs.all AV.lens = true) → W P cx c (LEndsB P fn.results fp x tb) ⟨argsL args 0, lives fp, n⟩) : FunB P f fp args x tb := by
  simp only [Bool.and_eq_true] at hfp
  refine funB_of hf hb hn hfp.1.1 hfp.1.2 n hfp.2 fun cx hN hR hF hL => ?_
  have := W_sound (cx := cx) hm c _ _ (by rw [hN]; exact hok) (h cx hN hR hF hL)
  have he : (⟨argsEnv args, bget (lives fp), fun b => b < n⟩ : AS) = LS.toAS ⟨argsL args 0, lives fp, n⟩ := by
    unfold LS.toAS mkAS
    congr 1
    · funext t
      rw [eget_argsL]
      simp [argsEnv]
    · funext b
      simp
  rw [he]
  refine this.mono ?_
  rintro e A ⟨L, rfl, hL⟩
  cases e with
  | normal => exact LEndsB_sound hL
  | ret => exact LEndsB_sound hL
  | _ => exact hL.elim

/-- Names, by a list. -/
def look (l : List Nat) (b : Nat) : Nat := l.getD b b

def boxesOK (box : Boxes) : List (Nat × Bx) → Prop
  | [] => True
  | (b, x) :: l => bget box b = some x ∧ boxesOK box l
def freshOK (nm : Nat) (fp : List (Nat × Bx)) (tb : List (Nat × Option Bx)) : Prop := ∀ p, p ∈ tb → p.2.isSome = true → inl fp p.1 = true ∨ (nm ≤ p.1 ∧ p.1 < nm + 8)

theorem boxesOK_spec {box : Boxes} : ∀ {l : List (Nat × Bx)}, boxesOK box l → ∀ b x, (b, x) ∈ l → bget box b = some x
  | [], _, b, x, h => by simp at h
  | (c, y) :: l, h, b, x, hx => by
    rcases List.mem_cons.1 hx with e | hx
    · injection e with e1 e2; subst e1 e2; exact h.1
    · exact boxesOK_spec h.2 b x hx

/-- The call of a function that is known by its contract with boxes; r: the caller's names for the contract's. -/
theorem callBW {env : Env} {box : Boxes} {nm : Nat} {f : FuncId} {l args : List AV} {o : Oper} {K : OpS → Prop} {fp : List (Nat × Bx)} {tb : List (Nat × Option Bx)} {x : AV} {hyp : Prop} (r : List Nat) (hc : Callable P f) (hF : FunB P f fp args x tb)
    (hl : l = args.map (AV.ren (look r))) (hs : (args.all (AV.names (inl fp)) && okF fp && okT fp tb && x.names (fun b => inl fp b || inl tb b) && injN (look r) (nmsF fp ++ nmsT tb)) = true) (hfp : boxesOK box (renF (look r) fp)) (hfr : freshOK nm (renF (look r) fp) (renT (look r) tb))
    (hK : K ⟨renF (look r) fp, x.ren (look r), renT (look r) tb⟩) : CallW P cx hyp env box nm f l o K := by
  simp only [Bool.and_eq_true] at hs
  obtain ⟨⟨⟨⟨h1, h2⟩, h3⟩, h4⟩, h5⟩ := hs
  refine fun ho => ⟨_, fun _ => y_callB (look r) ho hc hF hl h1 h2 h3 h4 h5, boxesOK_spec hfp, fun b y hb => ?_, hK⟩
  rcases hfr (b, some y) hb rfl with h | h
  · exact .inl (inl_iff.1 h)
  · exact .inr h
end

end Go.Proofs.YtkonljmmdifnaaaGreat.V
