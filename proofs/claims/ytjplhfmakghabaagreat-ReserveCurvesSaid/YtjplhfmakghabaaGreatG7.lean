/- Pieces of code: rules at CodeW. More rules at CodeW: loops whose rounds go piece by piece; a cut in the midst of a row of pieces. Contracts: cmp, slices.IsSorted at ints. Rows of steps of chapter 19, and their order. Chapters 8, 18, 19 as plain data: covers, files, what they have paid. Contracts: num.Bp at amounts that may be, parts of 10000. Contracts: cover.Right, Pays; the reference's of chapter 8. Contracts: claims and files: Formed, Right, Open, stand, Stand, last. Contracts: claims and files: Stand, Clone, Put, made, Right. Contracts of chapter 19: made, Right, check. -/
import Derived.Test.YtjplhfmakghabaaGreatG6
set_option linter.unusedSimpArgs false
set_option linter.unusedVariables false
namespace Go.Proofs.YtjplhfmakghabaaGreat.V
open Go.RowKit
variable {P : Program} {cx : Cx} {ι : Nat → Option Nat} {box : Nat → Option Bx} {used : Nat → Prop}

theorem code_seq2 {a b : Code} {Q : Exit → LS → Prop} {A : LS} (h : CodeW P cx a (lthen (fun A => CodeW P cx b Q A) Q) A) : CodeW P cx (.seq a b) Q A := by
  refine awp_seq (AWp.mono h ?_)
  rintro e A' ⟨L, rfl, hL⟩
  cases e with
  | normal => exact hL
  | _ => exact ⟨L, rfl, hL⟩

theorem code_block {id : Nat} {a : Code} {Q : Exit → LS → Prop} {A : LS} (h : CodeW P cx a (linBlock id Q) A) : CodeW P cx (.block id a) Q A := by
  refine awp_block (AWp.mono h ?_)
  rintro e A' ⟨L, rfl, hL⟩
  cases e with
  | exit id' =>
    simp only [ainBlock]
    by_cases hh : id' = id
    · rw [if_pos hh]; simp only [linBlock, hh] at hL; exact ⟨L, rfl, by simpa using hL⟩
    · rw [if_neg hh]; exact ⟨L, rfl, by simpa [linBlock, hh] using hL⟩
  | _ => exact ⟨L, rfl, hL⟩

theorem code_cut {c : Code} {Q : Exit → LS → Prop} {A : LS} (r : Nat → Nat) (A' : LS) (h : LCut cx r A A') (hw : CodeW P cx c Q A') : CodeW P cx c Q A := awp_cut h.cut hw

theorem funB_C {f : FuncId} {fn : Func} {c : Code} {fp : List (Nat × Bx)} {args : List AV} {x : AV} {tb : List (Nat × Option Bx)} (n : Nat) (hf : P.funcs[f]? = some fn) (hb : fn.body = some c) (hn : args.length ≤ fn.ntmps)
    (hfp : (fp.all (fun p => !p.2.cs.isEmpty) && okF fp && fp.all (fun p => decide (p.1 < n))) = true)
    (h : ∀ cx : Cx, cx.N = fn.ntmps → cx.R = none → (∀ b g, cx.F b = some g → inl fp b = true) → (args.all AV.lens = true ∧ ∀ b x, bget (lives fp) b = some x → x.cs.all AV.lens = true) → CodeW P cx c (LEndsB P fn.results fp x tb) ⟨argsL args 0, lives fp, n⟩) : FunB P f fp args x tb := by
  simp only [Bool.and_eq_true] at hfp
  refine funB_of hf hb hn hfp.1.1 hfp.1.2 n hfp.2 fun cx hN hR hF hL => ?_
  have := h cx hN hR hF hL
  have he : (⟨argsEnv args, bget (lives fp), fun b => b < n⟩ : AS) = LS.toAS ⟨argsL args 0, lives fp, n⟩ := by
    unfold LS.toAS mkAS
    congr 1
    · funext t
      rw [eget_argsL]
      simp [argsEnv]
    · funext b
      simp
  rw [he]
  refine AWp.mono this ?_
  rintro e A ⟨L, rfl, hL⟩
  cases e with
  | normal => exact LEndsB_sound hL
  | ret => exact LEndsB_sound hL
  | _ => exact hL.elim

theorem code_argsB {c : Code} {Q : Exit → LS → Prop} {args : List AV} {env : Env} {fp : List (Nat × Bx)} {box : Boxes} {n : Nat} (hA : argsL args 0 = env) (hB : lives fp = box) (h : CodeW P cx c Q ⟨env, box, n⟩) : CodeW P cx c Q ⟨argsL args 0, lives fp, n⟩ := by subst hA hB; exact h
theorem code_args {c : Code} {Q : Exit → LS → Prop} {args : List AV} {env : Env} {box : Boxes} {n : Nat} (hA : argsL args 0 = env) (h : CodeW P cx c Q ⟨env, box, n⟩) : CodeW P cx c Q ⟨argsL args 0, box, n⟩ := by subst hA; exact h

/-- A piece of code, behind which S is known. -/
theorem code_seqS {a b : Code} {Q : Exit → LS → Prop} {A : LS} (hm : P.follows .mixedOrders = true) (hok : bodyOK cx.N a = true) (S : LS → Prop) (h : W P cx a (lthen S Q) A) (h2 : ∀ A', S A' → CodeW P cx b Q A') : CodeW P cx (.seq a b) Q A := by
  refine awp_seq ((W_sound hm a _ A hok h).mono ?_)
  rintro e A' ⟨L, rfl, hL⟩
  cases e with
  | normal => exact h2 L hL
  | _ => exact ⟨L, rfl, hL⟩

theorem code_bit {y : Operand} {a b : Code} {p : Prop} {env : Env} {box : Boxes} {n : Nat} {Q : Exit → LS → Prop} (hy : oeval env y = .bit p) (h1 : p → CodeW P cx a Q ⟨env, box, n⟩) (h2 : CodeW P cx b Q ⟨env, box, n⟩) : CodeW P cx (.cond y a b) Q ⟨env, box, n⟩ := by
  intro ι ac w hs
  have hv := hs.eval y
  rw [mkAS_eval, hy] at hv
  obtain ⟨b, hb, hp⟩ := hv.bit'
  exact wpIn_cond_split hb (fun e => h1 (hp e) ι ac w hs) (fun _ => h2 ι ac w hs)

/-- A nil slice may be taken for an empty slice of the call's own, of a new name. -/
theorem code_nil {c : Code} {Q : Exit → LS → Prop} {A : LS} (tm b k : Nat) (ty : TypeId) (h0 : eget A.env tm = .v (.slice none 0 0)) (hb : A.next ≤ b) (h : CodeW P cx c Q ⟨(tm, .osl b k 0 0) :: A.env, (b, some ⟨ty, []⟩) :: A.box, b + 1⟩) : CodeW P cx c Q A :=
  fun ι a w hs => h ι a w (sat_nil tm b k ty h0 hb hs)

/-- From here on the boxes ns are plain data. -/
theorem code_freeze {c : Code} {Q : Exit → LS → Prop} {env : Env} {box pb : Boxes} {n : Nat} (ns : List Nat) (env' : Env) (box' : Boxes) (hp : pickB box ns = pb) (he : fzE pb env env') (hb : fzB ns pb box box') (h : CodeW P cx c Q ⟨env', box', n⟩) : CodeW P cx c Q ⟨env, box, n⟩ :=
  fun ι a w hs => h ι a w (sat_frz ns hp he hb hs)
end Go.Proofs.YtjplhfmakghabaaGreat.V
set_option linter.unusedSimpArgs false
set_option linter.unusedVariables false
namespace Go.Proofs.YtjplhfmakghabaaGreat.V
open Go.RowKit
variable {P : Program} {cx : Cx}

theorem loopC {σ : Type} {c : Code} {Q : Exit → LS → Prop} {A : LS} (I : σ → LS) (μ : σ → Nat) (r : Nat → Nat) (s₀ : σ) (h₀ : LCut cx r A (I s₀))
    (round : ∀ s, CodeW P cx c (lthen (fun A' => ∃ (s' : σ) (r' : Nat → Nat), LCut cx r' A' (I s') ∧ μ s' < μ s) Q) (I s)) : LoopW P cx c Q A := by
  refine awp_loop (fun s => (I s).toAS) μ _ r s₀ h₀.cut fun s => ?_
  refine AWp.mono (round s) ?_
  rintro e A' ⟨L, rfl, hL⟩
  cases e with
  | normal =>
    obtain ⟨s', r', h1, h2⟩ := hL
    exact ⟨s', _, r', h1.cut, h2⟩
  | _ => exact ⟨L, rfl, hL⟩

/-- The last of the pieces ahead of the cut. -/
theorem codeT_base (hm : P.follows .mixedOrders = true) {a b : Code} {Q : Exit → LS → Prop} (hok : bodyOK cx.N a = true) (S : LS → Prop) (h2 : ∀ A', S A' → CodeW P cx b Q A') : ∀ A, W P cx a (lthen S Q) A → CodeW P cx (.seq a b) Q A :=
  fun _ h => code_seqS hm hok S h h2
/-- A piece ahead of it. -/
theorem codeT_step (hm : P.follows .mixedOrders = true) {a X Y : Code} {Q : Exit → LS → Prop} {S : LS → Prop} (hok : bodyOK cx.N a = true) (h : ∀ A, W P cx X (lthen S Q) A → CodeW P cx Y Q A) : ∀ A, W P cx (.seq a X) (lthen S Q) A → CodeW P cx (.seq a Y) Q A := by
  intro A hw
  refine awp_seq (AWp.mono (W_sound hm a _ A hok hw) ?_)
  rintro e A' ⟨L, rfl, hL⟩
  cases e with
  | normal => exact h L hL
  | _ => exact ⟨L, rfl, hL⟩
theorem code_cut5 (hm : P.follows .mixedOrders = true) {a b c d e r : Code} {Q : Exit → LS → Prop} {A : LS} (S : LS → Prop) (h1 : bodyOK cx.N a = true) (h2 : bodyOK cx.N b = true) (h3 : bodyOK cx.N c = true) (h4 : bodyOK cx.N d = true) (h5 : bodyOK cx.N e = true)
    (hr : ∀ A', S A' → CodeW P cx r Q A') (h : W P cx (.seq a (.seq b (.seq c (.seq d e)))) (lthen S Q) A) : CodeW P cx (.seq a (.seq b (.seq c (.seq d (.seq e r))))) Q A :=
  codeT_step hm h1 (codeT_step hm h2 (codeT_step hm h3 (codeT_step hm h4 (codeT_base hm h5 S hr)))) A h
end Go.Proofs.YtjplhfmakghabaaGreat.V
set_option linter.unusedSimpArgs false
set_option linter.unusedVariables false
namespace Go.Proofs.YtjplhfmakghabaaGreat.V
open Go.RowKit
set_option maxRecDepth 100000

theorem isNaN_f (a : Int) : Fun Tryz.prog 81 [int a] (bool false) := by
  refine fun_W mixed Tryz.func81 rfl (Nat.le_of_ble_eq_true rfl) (by kernel_rfl) fun cx hN hR hF hL => ?_; apply args_k; (case hA => (simp only [go_sem, ↓reduceIte]; rfl))
  (try ((try (revert K;refine bK ?_));refine' run trivial ?_;(repeat' first|exact True.intro|refine Lv.mk ?_ ?_|(refine oK ?_;intro K hK)|intro hq);all_goals refine Lf.mk ?_))

theorem less_f (a b : Int) : Fun Tryz.prog 56 [int a, int b] (bool (decide (a < b))) := by
  refine fun_W mixed Tryz.func56 rfl (Nat.le_of_ble_eq_true rfl) (by kernel_rfl) fun cx hN hR hF hL => ?_; apply args_k; (case hA => (simp only [go_sem, ↓reduceIte]; rfl))
  (try ((try (revert K;refine bK ?_));refine' run trivial ?_;(repeat' first|exact True.intro|refine Lv.mk ?_ ?_|(refine oK ?_;intro K hK)|intro hq);all_goals refine Lf.mk ?_))
  (refine callW cl81 (isNaN_f _) (by simp) ?_)
  (try ((try (revert K;refine bK ?_));refine' run trivial ?_;(repeat' first|exact True.intro|refine Lv.mk ?_ ?_|(refine oK ?_;intro K hK)|intro hq);all_goals refine Lf.mk ?_))

def compareJ (a b : Int) : Int := if a < b then -1 else if b < a then 1 else 0
theorem cmp_lt (a b : Int) : decide (compareJ a b < 0) = decide (a < b) := by
  unfold compareJ
  by_cases h : a < b
  · simp [h]
  · by_cases h2 : b < a <;> simp [h, h2]

theorem compareJ_f (a b : Int) : Fun Tryz.prog 67 [int a, int b] (int (compareJ a b)) := by
  refine fun_W mixed Tryz.func67 rfl (Nat.le_of_ble_eq_true rfl) (by kernel_rfl) fun cx hN hR hF hL => ?_; apply args_k; (case hA => (simp only [go_sem, ↓reduceIte]; rfl))
  (repeat' first|((try (revert K;refine bK ?_));refine' run trivial ?_;(repeat' first|exact True.intro|refine Lv.mk ?_ ?_|(refine oK ?_;intro K hK)|intro hq);all_goals refine Lf.mk ?_)|refine callZ cl81 (isNaN_f _) ?_)
  all_goals first
    | exact absurd ‹(false : Bool) = true› (by decide)
    | (show _ = compareJ a b; unfold compareJ; (repeat' split) <;> omega)
def rises : List Int → Bool
  | a :: b :: l => decide (a ≤ b) && rises (b :: l)
  | _ => true

theorem rises_drop {l : List Int} {i : Nat} (h : i + 1 < l.length) : rises (l.drop i) = (decide (l[i] ≤ l[i + 1]) && rises (l.drop (i + 1))) := by
  rw [List.drop_eq_getElem_cons (show i < l.length by omega), List.drop_eq_getElem_cons h]
  simp [rises]

theorem rises_of_drop {l : List Int} : ∀ (i : Nat), rises l = true → rises (l.drop i) = true
  | 0, h => h
  | i + 1, h => by
    have := rises_of_drop i h
    by_cases hi : i + 1 < l.length
    · rw [rises_drop hi, Bool.and_eq_true] at this; exact this.2
    · rw [List.drop_eq_nil_of_le (by omega)]; rfl

theorem isSorted_f (l : List Int) : Fun Tryz.prog 74 [ints l] (bool (rises l)) := by
  refine fun_W mixed Tryz.func74 rfl (Nat.le_of_ble_eq_true rfl) (by kernel_rfl) fun cx hN hR hF hL => ?_; apply args_k; (case hA => (simp only [go_sem, ↓reduceIte]; rfl))
  simp at hL
  have hl := hL.1
  simp [maxLen] at hl
  (try ((try (revert K;refine bK ?_));refine' run trivial ?_;(repeat' first|exact True.intro|refine Lv.mk ?_ ?_|(refine oK ?_;intro K hK)|intro hq);all_goals refine Lf.mk ?_))
  refine loopW mixed (σ := {i : Nat // i ≤ l.length ∧ rises (l.drop (i - 1)) = true}) (fun s => ⟨[(3, int ((s.1 : Int) - 1)), (2, bool false), (0, ints l)], [], 2000⟩) (fun s => s.1) id ⟨l.length, by omega, ?_⟩ (by rw [hN]; kernel_rfl) ?_ ?_
  · by_cases h : l = []
    · subst h; rfl
    · have h1 : l.length - 1 + 1 = l.length := by have := List.length_pos_iff.2 h; omega
      rw [List.drop_eq_getElem_cons (by omega), List.drop_eq_nil_of_le (by omega)]
      rfl
  · have hw : IntKind.i64.wrap ((l.length : Int) - 1) = l.length - 1 := wrap_id (by omega) (by omega)
    simp only [go_sem, ↓reduceIte, hF, hw]
  · rintro ⟨i, h1, h2⟩
    rcases i with _ | _ | i
    · (try ((try (revert K;refine bK ?_));refine' run trivial ?_;(repeat' first|exact True.intro|refine Lv.mk ?_ ?_|(refine oK ?_;intro K hK)|intro hq);all_goals refine Lf.mk ?_))
      exact h2.symm
    · (try ((try (revert K;refine bK ?_));refine' run trivial ?_;(repeat' first|exact True.intro|refine Lv.mk ?_ ?_|(refine oK ?_;intro K hK)|intro hq);all_goals refine Lf.mk ?_))
      exact h2.symm
    · have ez : ((i + 1 + 1 : Nat) : Int) - 1 = ((i + 1 : Nat) : Int) := by omega
      have ew : IntKind.i64.wrap (((i + 1 : Nat) : Int) - 1) = (i : Int) := by rw [wrap_id] <;> omega
      have e1 : l[i + 1]? = some l[i + 1] := List.getElem?_eq_getElem (by omega)
      have e2 : l[i]? = some l[i] := List.getElem?_eq_getElem (by omega)
      (try ((try (revert K;refine bK ?_));refine' run (I ez (I ew (I e1 e2))) ?_;(repeat' first|exact True.intro|refine Lv.mk ?_ ?_|(refine oK ?_;intro K hK)|intro hq);all_goals refine Lf.mk ?_))
      (refine callW cl56 (less_f _ _) (by simp) ?_)
      (try ((try (revert K;refine bK ?_));refine' run (I ez (I ew (I e1 e2))) ?_;(repeat' first|exact True.intro|refine Lv.mk ?_ ?_|(refine oK ?_;intro K hK)|intro hq);all_goals refine Lf.mk ?_))
      · cases hr : rises l with
        | false => rfl
        | true =>
          have h3 := rises_of_drop i hr
          rw [rises_drop (show i + 1 < l.length by omega)] at h3
          simp at h3
          omega
      · refine ⟨⟨i + 1, by omega, ?_⟩, id, ?_, Nat.lt_succ_self _⟩
        · have h3 := rises_drop (show i + 1 < l.length by omega)
          simp at h2 h3 ⊢
          rw [h3, h2]
          simp [hq]
        · have ev : ((i + 1 : Nat) : Int) - 1 = (i : Int) := by omega
          simp only [go_sem, ↓reduceIte, hF, ev]

def orL : List Int → Int
  | [] => 0
  | a :: l => if a = 0 then orL l else a
theorem orL_f (l : List Int) : Fun Tryz.prog 66 [ints l] (int (orL l)) := by
  refine fun_W mixed Tryz.func66 rfl (Nat.le_of_ble_eq_true rfl) (by kernel_rfl) fun cx hN hR hF hL => ?_; apply args_k; (case hA => (simp only [go_sem, ↓reduceIte]; rfl))
  simp at hL
  have hl := hL.1
  simp [maxLen] at hl
  (try ((try (revert K;refine bK ?_));refine' run trivial ?_;(repeat' first|exact True.intro|refine Lv.mk ?_ ?_|(refine oK ?_;intro K hK)|intro hq);all_goals refine Lf.mk ?_))
  generalize hRr : orL l = R
  refine loopW mixed (σ := {i : Nat // i ≤ l.length ∧ orL (l.drop i) = R}) (fun s => ⟨[(8, int s.1), (7, int l.length), (6, ints l), (3, int 0)], [], 3000⟩) (fun s => l.length - s.1) id ⟨0, by omega, hRr⟩ (by rw [hN]; kernel_rfl) ?_ ?_
  · simp only [go_sem, ↓reduceIte, hF]
    rfl
  · rintro ⟨i, h1, h2⟩
    by_cases hi : i < l.length
    · have hq : l[i]? = some l[i] := List.getElem?_eq_getElem hi
      have e1 : (l.map irow)[i]? = some (irow l[i]) := by rw [List.getElem?_map, hq]; rfl
      have e5 : IntKind.i64.wrap ((i : Int) + 1) = ((i + 1 : Nat) : Int) := by rw [wrap_id] <;> omega
      have hk1 : i < (l.map irow).length := by simpa using hi
      rw [List.drop_eq_getElem_cons hi, orL] at h2
      generalize l[i] = q at *
      by_cases h0 : q = 0
      · have h0' := eq_true h0
        rw [if_pos h0] at h2
        subst h0
        (try ((try (revert K;refine bK ?_));refine' run (I e1 (I e5 hk1)) ?_;(repeat' first|exact True.intro|refine Lv.mk ?_ ?_|(refine oK ?_;intro K hK)|intro hq);all_goals refine Lf.mk ?_))
        refine ⟨⟨i + 1, hi, h2⟩, id, ?_, by show l.length - (i + 1) < l.length - i; omega⟩
        simp only [go_sem, ↓reduceIte, hF]
      · have h0' := eq_false h0
        rw [if_neg h0] at h2
        subst h2
        (try ((try (revert K;refine bK ?_));refine' run (I e1 (I e5 (I hk1 h0'))) ?_;(repeat' first|exact True.intro|refine Lv.mk ?_ ?_|(refine oK ?_;intro K hK)|intro hq);all_goals refine Lf.mk ?_))
    · obtain rfl : i = l.length := by omega
      rw [List.drop_length, orL] at h2
      subst h2
      (try ((try (revert K;refine bK ?_));refine' run trivial ?_;(repeat' first|exact True.intro|refine Lv.mk ?_ ?_|(refine oK ?_;intro K hK)|intro hq);all_goals refine Lf.mk ?_))
end Go.Proofs.YtjplhfmakghabaaGreat.V
set_option linter.unusedSimpArgs false
set_option linter.unusedVariables false
namespace Go.Proofs.YtjplhfmakghabaaGreat.V
open Go.RowKit
set_option maxRecDepth 100000

/-- An act of a file. -/
structure Stp where
  file : Int
  act : Act
deriving DecidableEq
@[go_sem] def trow (s : Stp) : List AV := [int s.file, int s.act.booked, int s.act.kind, int s.act.amt]
@[simp] theorem trow_data (s : Stp) : (∀ y, y ∈ trow s → AV.isData y = true) ↔ True := by simp [trow]
@[go_sem] theorem rowT_ren (r : Nat → Nat) (l : List Stp) : (rowC trow l).map (AV.ren r) = rowC trow l := rows_ren (fun x r => by simp [trow]) r l
@[go_sem] theorem rowT_nms (p : Nat → Bool) (l : List Stp) : (rowC trow l).all (AV.names p) = true := rows_nms (fun x p => by simp [trow]) p l
theorem rowT_nms' (p : Nat → Bool) (l : List Stp) : (∀ x, x ∈ rowC trow l → AV.names p x = true) ↔ True := by
  simp only [iff_true]
  exact List.all_eq_true.1 (rowT_nms p l)
theorem rowT_len (l : List Stp) : (rowC trow l).length = l.length * 4 := rowC_len (F := trow) (k := 4) (fun _ => rfl) l
theorem rowT_cons (x : Stp) (l : List Stp) : rowC trow (x :: l) = trow x ++ rowC trow l := by simp [rowC]
theorem rowT_ne {l : List Stp} (h : l ≠ []) : (rowC trow l = []) ↔ False := by
  rw [iff_false, ← List.length_eq_zero_iff, rowT_len]
  have := List.length_pos_iff.2 h
  omega
theorem rowT_nz {l : List Stp} (h : 0 < l.length) : (rowC trow l = []) ↔ False := rowT_ne (List.length_pos_iff.1 h)
/-- The cells of an element. -/
theorem rowT_some {l : List Stp} {i : Nat} {x : Stp} (h : l[i]? = some x) : ((rowC trow l).drop (i * 4)).take 4 = trow x := by
  induction l generalizing i with
  | nil => simp at h
  | cons y l ih =>
    rw [rowT_cons]
    rcases i with _ | i
    · simp at h; subst h; simp [trow]
    · have h' : l[i]? = some x := by simpa using h
      have : (i + 1) * 4 = 4 + i * 4 := by omega
      rw [this, ← List.drop_drop]
      simp only [trow, List.cons_append, List.nil_append, List.drop_succ_cons, List.drop_zero]
      exact ih h'
theorem rowT_put (l : List Stp) (i : Nat) (x : Stp) (h : i < l.length) : List.take (i * 4) (rowC trow l) ++ [int x.file, int x.act.booked, int x.act.kind, int x.act.amt] ++ List.drop (i * 4 + 4) (rowC trow l) = rowC trow (l.set i x) := by
  induction l generalizing i with
  | nil => simp at h
  | cons y l ih =>
    rw [rowT_cons]
    rcases i with _ | i
    · simp [rowT_cons, trow]
    · have h' : i < l.length := by simpa using h
      have := ih i h'
      rw [List.set_cons_succ, rowT_cons, ← this, show (i + 1) * 4 = i * 4 + 4 by omega, show i * 4 + 4 + 4 = (i * 4 + 4) + 4 by omega]
      simp [trow]
@[go_sem] theorem le4 (j n : Nat) : (j * 4 + 4 ≤ n * 4) = (j < n) := propext ⟨fun h => by omega, fun h => by omega⟩

/-- By the day on which it was booked; of one day by the file. -/
def ltT (x y : Stp) : Bool := decide (x.act.booked < y.act.booked) || (decide (x.act.booked = y.act.booked) && decide (x.file < y.file))
theorem sw_ltT : SW ltT := by
  constructor <;> simp only [ltT, Bool.or_eq_true, Bool.and_eq_true, decide_eq_true_eq, Bool.or_eq_false_iff, Bool.and_eq_false_iff, decide_eq_false_iff_not] <;> intros <;> omega

def aheadT (x y : Stp) : Int := orL [compareJ x.act.booked y.act.booked, compareJ x.file y.file]
theorem ahead_lt (x y : Stp) : decide (aheadT x y < 0) = ltT x y := by
  unfold aheadT ltT compareJ
  generalize x.act.booked = a
  generalize y.act.booked = b
  generalize x.file = c
  generalize y.file = d
  rcases Int.lt_trichotomy a b with h | h | h
  · have h1 : ¬ b < a := by omega
    simp [orL, h]
  · subst h
    rcases Int.lt_trichotomy c d with h | h | h
    · simp [orL, h]
    · subst h; simp [orL]
    · have h1 : ¬ c < d := by omega
      simp [orL, h, h1]
  · have h1 : ¬ a < b := by omega
    have h2 : ¬ a = b := by omega
    simp [orL, h, h1, h2]
theorem aheadT_f (x y : Stp) : Fun Tryz.prog 44 [.agg (trow x), .agg (trow y)] (int (aheadT x y)) := by
  refine fun_W mixed Tryz.func44 rfl (Nat.le_of_ble_eq_true rfl) (by kernel_rfl) fun cx hN hR hF hL => ?_; apply args_k; (case hA => (simp only [go_sem, ↓reduceIte]; rfl))
  (repeat' (first | (with_reducible exact trivial) | (with_reducible apply byK; kernel_rfl) | (with_reducible apply byD; first | (simp; done) | (simp [go_sem]; done)) | ((with_reducible first | apply rk_v | apply rk_r | apply rk_vn | apply rg_v | apply rg_r | apply rk_s | apply rk_n | apply rk_a | apply rk_rn | apply gd_f); (case hi => rfl); (try case hb => kernel_rfl)) | (((with_reducible first | apply rg_n | apply rg_s); (case hi => rfl); (case hb => kernel_rfl)) <;> (intro hg; simp only [hg])) | ((with_reducible first | apply rk_all); (case hi => rfl); (case hb => kernel_rfl); (case h1 | h2 | h3 | h4 => (simp only [econs, List.map_cons, List.map_nil, List.cons_append, List.nil_append, OpS.nm, OpS.reads, OpS.turns]; try rfl))) | ((with_reducible first | apply rg_k); (case hi => rfl); (case hb => kernel_rfl); (case hs => rfl); (case h1 | h2 | h3 | h4 => (simp only [econs, List.map_cons, List.map_nil, List.cons_append, List.nil_append, OpS.nm, OpS.reads, OpS.turns]; try rfl))) | (((with_reducible first | apply rg_w); (case hi => rfl); (case hb => kernel_rfl); (case hs => rfl); (case h1 | h2 | h3 | h4 | h5 => (simp only [econs, List.map_cons, List.map_nil, List.cons_append, List.nil_append, OpS.nm, OpS.reads, OpS.turns]; try rfl))) <;> (intro hg; try (cases hg; done))) | ((with_reducible first | apply rs_nil); (case h => (unfold NapOK; kernel_rfl))) | ((with_reducible first | apply byKl | apply byKr); (case h => kernel_rfl)) | ((with_reducible first | apply rs_c | apply gd_c | apply rs_o | apply rs_gd | apply gd_u | apply w_c | apply ce); (try case hd => (repeat (first | (with_reducible exact dst_z rfl) | (with_reducible apply dst_s)))); (try case hn => rfl); (case hy => (simp only [go_sem, ↓reduceIte]; try with_reducible rfl))) | ((with_reducible first | apply cw_t | apply cw_f | apply rs_nil_f | apply lt_n | apply lb_n | apply lt_r | apply lb_r | apply lt_e | apply lb_e | apply w_seq | apply w_skip | apply w_block | apply w_ret | apply w_exit | apply w_loop | apply w_label)) | (((with_reducible first | apply lb_m)); (case hne => rfl)) | ((with_reducible first | apply w_region); (case hm => (simp only [Nat.reduceAdd]; try rfl)); (case hs => kernel_rfl); intro K hK) | (((with_reducible first | apply cw_c)) <;> (intro hq; try simp only [decide_eq_true_eq, decide_eq_false_iff_not, Bool.and_eq_true, Bool.or_eq_true, Bool.and_eq_false_iff, Bool.or_eq_false_iff, Bool.not_eq_true', Bool.not_eq_false', Int.not_lt, Int.not_le] at hq; try (exfalso; omega))) | (((with_reducible first | apply cw_b)) <;> (try intro hq)) | ((with_reducible first | apply ends_r | apply ends_n | apply endsB_r | apply endsB_n); (case hr => rfl); simp only [go_sem, ↓reduceIte]) | (with_reducible refine hK _ _ ?_; clear hK; clear K) | ((with_reducible apply callX cl67 (compareJ_f _ _)); (case hl => rfl)) | ((with_reducible apply callFX [1096] cl66 (orL_f [compareJ x.act.booked y.act.booked, compareJ x.file y.file])); (case hy | hl | hk => (simp only [go_sem, ↓reduceIte]; try rfl)); (case hz => (simp [go_sem, fzo]; done))) | omega))
  rfl
end Go.Proofs.YtjplhfmakghabaaGreat.V
set_option linter.unusedSimpArgs false
set_option linter.unusedVariables false
namespace Go.Proofs.YtjplhfmakghabaaGreat.V
open Go.RowKit
set_option maxRecDepth 100000

abbrev actsA (l : List Act) : AV := .sl false 3 (l.map Act.flat)
structure File where
  claim : Claim
  acts : List Act
deriving DecidableEq
@[go_sem] def File.flat (f : File) : List AV := [int f.claim.id, int f.claim.policy, int f.claim.peril, int f.claim.loss, int f.claim.booked, int f.claim.event, actsA f.acts]
abbrev filesA (l : List File) : AV := .sl false 7 (l.map File.flat)
structure Pos where
  gross : Int
  shown : Int
  paid : Int
  back : Int
  reserve : Int
  opn : Bool
deriving DecidableEq
@[go_sem] def Pos.flat (p : Pos) : List AV := [int p.gross, int p.shown, int p.paid, int p.back, int p.reserve, bool p.opn]
abbrev possA (l : List Pos) : AV := .sl false 6 (l.map Pos.flat)

/-! ### Covers -/

/-- An amount by parts of 10000, half-even. -/
def bpE (m bp : Int) : Int :=
  let q := m * bp / 10000
  let r := m * bp % 10000
  if r > 10000 - r ∨ (r = 10000 - r ∧ q % 2 = 1) then q + 1 else q
theorem bpE_bd {m bp : Int} (h1 : 0 ≤ m) (h2 : 1 ≤ bp) (h3 : bp ≤ 10000) : 0 ≤ bpE m bp ∧ bpE m bp ≤ m := by
  have g1 : 0 ≤ m * bp := Int.mul_nonneg h1 (by omega)
  have g2 : m * bp ≤ m * 10000 := Int.mul_le_mul_of_nonneg_left h3 h1
  unfold bpE
  simp only
  generalize m * bp = x at *
  split <;> omega
theorem bpE_mono {m n bp : Int} (h : m ≤ n) (h2 : 1 ≤ bp) : bpE m bp ≤ bpE n bp := by
  have g2 : m * bp ≤ n * bp := Int.mul_le_mul_of_nonneg_right h (by omega)
  unfold bpE
  simp only
  generalize m * bp = x at *
  generalize n * bp = y at *
  split <;> split <;> omega
/-- The share of one cent more is one cent more at most. -/
theorem bpE_step {m d bp : Int} (h0 : 0 ≤ d) (h2 : 1 ≤ bp) (h3 : bp ≤ 10000) : bpE (m + d) bp ≤ bpE m bp + d := by
  have g1 : (m + d) * bp = m * bp + d * bp := Int.add_mul _ _ _
  rcases (by omega : bp = 10000 ∨ bp ≤ 9999) with rfl | h4
  · unfold bpE
    simp only
    split <;> split <;> omega
  · have g2 : d * bp ≤ d * 9999 := Int.mul_le_mul_of_nonneg_left h4 h0
    have g3 : 0 ≤ d * bp := Int.mul_nonneg h0 (by omega)
    unfold bpE
    simp only
    rw [g1]
    generalize m * bp = x at *
    generalize d * bp = y at *
    rcases (by omega : d = 0 ∨ 1 ≤ d) with rfl | h5
    · split <;> split <;> omega
    · split <;> split <;> omega

def cvRight (p l a d s : Int) : Bool := decide (0 ≤ p) && decide (p < 8) && decide (1 ≤ s) && decide (s ≤ 10000) && decide (0 ≤ d) && decide (d < l) && decide (l ≤ a) && decide (a ≤ 1000000000000000)
def Cover.rightB (c : Cover) : Bool := cvRight c.peril c.limit c.agg c.ded c.share
theorem cvRight_iff {p l a d s : Int} : cvRight p l a d s = true ↔ 0 ≤ p ∧ p < 8 ∧ 1 ≤ s ∧ s ≤ 10000 ∧ 0 ≤ d ∧ d < l ∧ l ≤ a ∧ a ≤ 1000000000000000 := by
  simp [cvRight, and_assoc]
/-- What a loss is worth by itself. -/
def worth0 (c : Cover) (loss : Int) : Int := bpE (max (min (loss - c.ded) c.limit) 0) c.share
def pays (c : Cover) (loss used : Int) : Int := if c.rightB = true ∧ 0 ≤ loss ∧ 0 ≤ used then max (min (worth0 c loss) (c.agg - used)) 0 else 0
theorem worth0_bd {c : Cover} (h : c.rightB = true) (loss : Int) : 0 ≤ worth0 c loss ∧ worth0 c loss ≤ max (min (loss - c.ded) c.limit) 0 := by
  have h2 := cvRight_iff.1 h
  exact bpE_bd (by omega) (by omega) (by omega)
theorem worth0_mono {c : Cover} (h : c.rightB = true) {a b : Int} (hab : a ≤ b) : worth0 c a ≤ worth0 c b := by
  have h2 := cvRight_iff.1 h
  exact bpE_mono (by omega) (by omega)
theorem worth0_step {c : Cover} (h : c.rightB = true) {a d : Int} (hd : 0 ≤ d) : worth0 c (a + d) ≤ worth0 c a + d := by
  have h2 := cvRight_iff.1 h
  unfold worth0
  have h3 : max (min (a + d - c.ded) c.limit) 0 ≤ max (min (a - c.ded) c.limit) 0 + d := by omega
  exact Int.le_trans (bpE_mono h3 (by omega)) (bpE_step hd (by omega) (by omega))
theorem pays_bd {c : Cover} (h : c.rightB = true) (loss : Int) {used : Int} (h2 : used ≤ c.agg) : 0 ≤ pays c loss used ∧ pays c loss used ≤ c.agg - used ∧ pays c loss used ≤ worth0 c loss := by
  have := worth0_bd h loss
  unfold pays
  split <;> omega

/-! ### Files -/

structure St where
  gross : Int
  shown : Int
  back : Int
  opn : Bool
deriving DecidableEq
def stOne (s : St) (a : Act) : St :=
  if a.kind = 1 then ⟨a.amt, s.shown, s.back, s.opn⟩ else if a.kind = 2 then ⟨s.gross, IntKind.i64.wrap (s.shown + a.amt), s.back, s.opn⟩
  else if a.kind = 3 then ⟨s.gross, s.shown, IntKind.i64.wrap (s.back + a.amt), s.opn⟩ else if a.kind = 4 then ⟨s.gross, s.shown, s.back, false⟩ else if a.kind = 5 then ⟨s.gross, s.shown, s.back, true⟩ else s
def standS (l : List Act) : St := l.foldl stOne ⟨0, 0, 0, true⟩
theorem standS_snoc (l : List Act) (a : Act) : standS (l ++ [a]) = stOne (standS l) a := by simp [standS]
def standP (l : List Act) : Pos := ⟨max (standS l).gross (standS l).shown, (standS l).shown, 0, (standS l).back, 0, (standS l).opn⟩

def inR (n a b : Int) : Bool := decide (a ≤ n) && decide (n ≤ b)
theorem inR_iff {n a b : Int} : inR n a b = true ↔ a ≤ n ∧ n ≤ b := by simp [inR]
def Claim.formedB (c : Claim) : Bool := (inR c.id 1 1000000000 && inR c.policy 1 1000000000 && inR c.event 0 1000000000) && (inR c.loss 1 292194 && inR c.booked 1 292194) && inR c.peril 0 7
def Act.rightB (a : Act) : Bool := inR a.booked 1 292194 && inR a.kind 1 5 && inR a.amt 0 (if a.kind = 4 ∨ a.kind = 5 then 0 else 1000000000000000)
def lastB (f : File) : Int := match f.acts.getLast? with | some a => a.booked | none => f.claim.booked
def overA (s : St) (a : Act) : Bool := (decide (a.kind = 2) && decide (a.amt > IntKind.i64.wrap (1000000000000000 - s.shown))) || (decide (a.kind = 3) && decide (a.amt > IntKind.i64.wrap (1000000000000000 - s.back)))
/-- Why an act is not put into a file; 0: it is. -/
def putE (f : File) (a : Act) : Int :=
  if a.rightB = false then 1 else if 2000 ≤ f.acts.length then 2 else if a.booked < lastB f then 4 else if (standS f.acts).opn = decide (a.kind = 5) then 10 else if overA (standS f.acts) a = true then 5 else 0
def madeL (c : Claim) : List Act → List Act → Bool
  | _, [] => true
  | p, a :: r => decide (putE ⟨c, p⟩ a = 0) && madeL c (p ++ [a]) r
def File.made (f : File) : Bool := madeL f.claim [] f.acts

/-- The amounts of a kind. -/
def sumK (k : Int) (p : List Act) : Int := (p.map fun a => if a.kind = k then a.amt else 0).sum
theorem sumK_snoc (k : Int) (p : List Act) (a : Act) : sumK k (p ++ [a]) = sumK k p + if a.kind = k then a.amt else 0 := by simp [sumK]
/-- A file that was made so. -/
structure Good (c : Claim) (p : List Act) : Prop where
  right : ∀ a, a ∈ p → a.rightB = true
  srt : p.Pairwise fun a b => a.booked ≤ b.booked
  first : ∀ a, a ∈ p → c.booked ≤ a.booked
  shown : 0 ≤ (standS p).shown ∧ (standS p).shown ≤ 1000000000000000
  back : 0 ≤ (standS p).back ∧ (standS p).back ≤ 1000000000000000
  gross : 0 ≤ (standS p).gross ∧ (standS p).gross ≤ 1000000000000000
  len : p.length ≤ 2000
  shownE : (standS p).shown = sumK 2 p
  backE : (standS p).back = sumK 3 p

theorem Act.right_iff {a : Act} : a.rightB = true ↔ 1 ≤ a.booked ∧ a.booked ≤ 292194 ∧ 1 ≤ a.kind ∧ a.kind ≤ 5 ∧ 0 ≤ a.amt ∧ a.amt ≤ (if a.kind = 4 ∨ a.kind = 5 then 0 else 1000000000000000) := by
  simp only [Act.rightB, Bool.and_eq_true, inR_iff]
  grind
theorem putE_ok {f : File} {a : Act} (h : putE f a = 0) : a.rightB = true ∧ f.acts.length < 2000 ∧ lastB f ≤ a.booked ∧ (standS f.acts).opn = !decide (a.kind = 5) ∧ overA (standS f.acts) a = false := by
  unfold putE at h
  split at h; · cases h
  split at h; · cases h
  split at h; · cases h
  split at h; · cases h
  split at h; · cases h
  rename_i h1 h2 h3 h4 h5
  refine ⟨by simpa using h1, by omega, by omega, ?_, by simpa using h5⟩
  cases h6 : (standS f.acts).opn <;> cases h7 : decide (a.kind = 5) <;> simp_all
theorem lastB_ge {c : Claim} {p : List Act} (h1 : p.Pairwise fun a b => a.booked ≤ b.booked) : ∀ a, a ∈ p → a.booked ≤ lastB ⟨c, p⟩ := by
  intro a ha
  rcases List.eq_nil_or_concat p with rfl | ⟨q, x, rfl⟩
  · simp at ha
  · rw [List.concat_eq_append] at *
    have hl : lastB ⟨c, q ++ [x]⟩ = x.booked := by simp [lastB]
    rw [hl]
    rw [List.pairwise_append] at h1
    rcases List.mem_append.1 ha with ha | ha
    · exact h1.2.2 a ha x (by simp)
    · simp at ha; subst ha; exact Int.le_refl _
theorem stOne_amt {s : St} {a : Act} (hr : a.rightB = true) (h1 : 0 ≤ s.shown ∧ s.shown ≤ 1000000000000000) (h2 : 0 ≤ s.back ∧ s.back ≤ 1000000000000000) (h3 : 0 ≤ s.gross ∧ s.gross ≤ 1000000000000000) (ho : overA s a = false) :
    (stOne s a).shown = s.shown + (if a.kind = 2 then a.amt else 0) ∧ (stOne s a).back = s.back + (if a.kind = 3 then a.amt else 0) ∧ (0 ≤ (stOne s a).shown ∧ (stOne s a).shown ≤ 1000000000000000) ∧ (0 ≤ (stOne s a).back ∧ (stOne s a).back ≤ 1000000000000000) ∧ 0 ≤ (stOne s a).gross ∧ (stOne s a).gross ≤ 1000000000000000 := by
  have h := Act.right_iff.1 hr
  have w1 : IntKind.i64.wrap (1000000000000000 - s.shown) = 1000000000000000 - s.shown := by rw [wrap_id] <;> omega
  have w2 : IntKind.i64.wrap (1000000000000000 - s.back) = 1000000000000000 - s.back := by rw [wrap_id] <;> omega
  have hm : a.amt ≤ 1000000000000000 := by
    have := h.2.2.2.2.2
    split at this <;> omega
  have w3 : IntKind.i64.wrap (s.shown + a.amt) = s.shown + a.amt := by rw [wrap_id] <;> omega
  have w4 : IntKind.i64.wrap (s.back + a.amt) = s.back + a.amt := by rw [wrap_id] <;> omega
  unfold overA at ho
  rw [w1, w2, Bool.or_eq_false_iff, Bool.and_eq_false_iff, Bool.and_eq_false_iff] at ho
  simp only [decide_eq_false_iff_not] at ho
  unfold stOne
  rw [w3, w4]
  by_cases k1 : a.kind = 1
  · simp only [k1, if_true]; simp; omega
  · by_cases k2 : a.kind = 2
    · simp only [k2]; simp; omega
    · by_cases k3 : a.kind = 3
      · simp only [k3]; simp; omega
      · simp only [k1, k2, k3, if_false, Int.add_zero]
        split
        · exact ⟨rfl, rfl, h1, h2, h3⟩
        · split
          · exact ⟨rfl, rfl, h1, h2, h3⟩
          · exact ⟨rfl, rfl, h1, h2, h3⟩
theorem Good.nil (c : Claim) : Good c [] := ⟨by simp, .nil, by simp, by simp [standS], by simp [standS], by simp [standS], by simp, by simp [standS, sumK], by simp [standS, sumK]⟩
theorem Good.snoc {c : Claim} {p : List Act} {a : Act} (h : Good c p) (ha : putE ⟨c, p⟩ a = 0) : Good c (p ++ [a]) := by
  obtain ⟨h1, h2, h3, h4, h5⟩ := putE_ok ha
  have hs := stOne_amt h1 h.shown h.back h.gross h5
  refine ⟨fun x hx => ?_, ?_, fun x hx => ?_, by rw [standS_snoc]; exact hs.2.2.1, by rw [standS_snoc]; exact hs.2.2.2.1, by rw [standS_snoc]; exact hs.2.2.2.2, by simp at h2 ⊢; omega, by rw [standS_snoc, sumK_snoc, hs.1, h.shownE], by rw [standS_snoc, sumK_snoc, hs.2.1, h.backE]⟩
  · rcases List.mem_append.1 hx with hx | hx
    · exact h.right x hx
    · simp at hx; subst hx; exact h1
  · rw [List.pairwise_append]
    exact ⟨h.srt, by simp, fun x hx y hy => by simp at hy; subst hy; exact Int.le_trans (lastB_ge h.srt x hx) h3⟩
  · rcases List.mem_append.1 hx with hx | hx
    · exact h.first x hx
    · simp at hx; subst hx
      rcases List.eq_nil_or_concat p with rfl | ⟨q, y, rfl⟩
      · simpa [lastB] using h3
      · rw [List.concat_eq_append] at *
        have hl : lastB ⟨c, q ++ [y]⟩ = y.booked := by simp [lastB]
        rw [hl] at h3
        exact Int.le_trans (h.first y (by simp)) h3
theorem madeL_good {c : Claim} : ∀ {r p : List Act}, Good c p → madeL c p r = true → Good c (p ++ r)
  | [], p, h, _ => by simpa using h
  | a :: r, p, h, hm => by
    rw [madeL, Bool.and_eq_true, decide_eq_true_eq] at hm
    have := madeL_good (h.snoc hm.1) hm.2
    simpa using this
theorem made_good {f : File} (h : f.made = true) : Good f.claim f.acts := by
  have := madeL_good (Good.nil f.claim) h
  simpa using this
theorem madeL_app {c : Claim} : ∀ {r s p : List Act}, madeL c p (r ++ s) = (madeL c p r && madeL c (p ++ r) s)
  | [], s, p => by simp [madeL]
  | a :: r, s, p => by simp [madeL, madeL_app (r := r) (s := s), Bool.and_assoc]
theorem made_put {f : File} {a : Act} (h : f.made = true) : (⟨f.claim, f.acts ++ [a]⟩ : File).made = decide (putE f a = 0) := by
  unfold File.made at h ⊢
  simp only
  rw [madeL_app, h]
  simp [madeL]

/-- Whether a file may be, of a cover's peril. -/
def okFile (p : Int) (f : File) : Bool := f.claim.formedB && decide (f.claim.peril = p) && f.made
def adjRight (c : Cover) (l : List File) : Bool := c.rightB && l.all (okFile c.peril)
def actsN (l : List File) : Nat := (l.map fun f => f.acts.length).sum
theorem actsN_snoc {l : List File} {i : Nat} {f : File} (h : l[i]? = some f) : actsN (l.take (i + 1)) = actsN (l.take i) + f.acts.length := by
  rw [List.take_add_one, h, actsN, List.map_append, List.sum_append]
  simp [actsN]
theorem actsN_take (l : List File) (i : Nat) : actsN (l.take i) ≤ actsN l := by
  have : actsN l = actsN (l.take i) + actsN (l.drop i) := by
    conv => lhs; rw [← List.take_append_drop i l]
    unfold actsN
    rw [List.map_append, List.sum_append]
  omega

/-! ### The order of acts -/

def stepsL (k : Nat) : List File → List Stp
  | [] => []
  | f :: l => f.acts.map (fun a => ⟨k, a⟩) ++ stepsL (k + 1) l
theorem stepsL_len (k : Nat) (l : List File) : (stepsL k l).length = actsN l := by
  induction l generalizing k with
  | nil => rfl
  | cons f l ih => simp [stepsL, ih, actsN]
theorem stepsL_app (k : Nat) (a b : List File) : stepsL k (a ++ b) = stepsL k a ++ stepsL (k + a.length) b := by
  induction a generalizing k with
  | nil => simp [stepsL]
  | cons f a ih => simp [stepsL, ih, Nat.add_assoc, Nat.add_comm 1]
theorem stepsL_mem {k : Nat} {l : List File} {s : Stp} (h : s ∈ stepsL k l) : ∃ i f, l[i]? = some f ∧ s.file = (k + i : Nat) ∧ s.act ∈ f.acts := by
  induction l generalizing k with
  | nil => simp [stepsL] at h
  | cons f l ih =>
    rw [stepsL, List.mem_append, List.mem_map] at h
    rcases h with ⟨a, ha, rfl⟩ | h
    · exact ⟨0, f, rfl, by simp, ha⟩
    · obtain ⟨i, g, h1, h2, h3⟩ := ih h
      exact ⟨i + 1, g, by simpa using h1, by rw [h2]; congr 1; omega, h3⟩
/-- The acts of all files in their order. -/
def ordL (l : List File) : List Stp := isort ltT (stepsL 0 l)

/-! ### What is paid -/

structure PS where
  shown : List Int
  paid : List Int
  all : Int
  out : List (Int × Int × Int)
def payOne (c : Cover) (s : PS) (x : Stp) : PS :=
  if x.act.kind = 2 then
    let k := x.file.toNat
    let sh := s.shown.getD k 0 + x.act.amt
    let pk := s.paid.getD k 0
    let w := pays c sh (s.all - pk)
    if w - pk ≤ 0 then ⟨s.shown.set k sh, s.paid, s.all, s.out⟩ else ⟨s.shown.set k sh, s.paid.set k w, s.all + (w - pk), s.out ++ [(x.file, x.act.booked, w - pk)]⟩
  else s
def ps0 (n : Nat) : PS := ⟨List.replicate n 0, List.replicate n 0, 0, []⟩
def payL (c : Cover) (n : Nat) (L : List Stp) : PS := L.foldl (payOne c) (ps0 n)
theorem payL_snoc (c : Cover) (n : Nat) (L : List Stp) (x : Stp) : payL c n (L ++ [x]) = payOne c (payL c n L) x := by simp [payL]
end Go.Proofs.YtjplhfmakghabaaGreat.V
set_option linter.unusedSimpArgs false
set_option linter.unusedVariables false
namespace Go.Proofs.YtjplhfmakghabaaGreat.V
open Go.RowKit
set_option maxRecDepth 100000
attribute [local go_sem] Option.toList_some Option.toList_none

def m32 (a : Int) : Int := IntKind.u64.wrap (((BitVec.ofInt 64 a &&& BitVec.ofInt 64 4294967295).toNat : Nat) : Int)
theorem and32 {a : Int} (h1 : 0 ≤ a) (h2 : a < 18446744073709551616) : m32 a = a % 4294967296 := by
  unfold m32
  obtain ⟨n, rfl⟩ : ∃ n : Nat, a = n := ⟨a.toNat, by omega⟩
  have e : (BitVec.ofInt 64 (n : Int) &&& BitVec.ofInt 64 4294967295).toNat = n % 4294967296 := by
    rw [BitVec.toNat_and]
    have h3 : (BitVec.ofInt 64 (n : Int)).toNat = n := by
      rw [BitVec.toNat_ofInt]
      omega
    have h4 : (BitVec.ofInt 64 4294967295).toNat = 2 ^ 32 - 1 := by decide
    rw [h3, h4, Nat.and_two_pow_sub_one_eq_mod]
  rw [e, wrap_u (by omega) (by omega)]
  omega
theorem shr32 (k : IntKind) (hk : k = .u64) (a : Int) : intBin .shr k a 32 = some (.v (.int k (a / 4294967296))) := by
  subst hk
  rw [ib_shr _ _ _ (by decide)]
  have : (2 : Int) ^ min (32 : Int).toNat IntKind.u64.bits = 4294967296 := by decide
  rw [this, Int.fdiv_eq_ediv_of_nonneg _ (by decide)]

set_option maxHeartbeats 4000000 in
theorem mul64_f (x y : Int) (h1 : 0 ≤ x) (h2 : x ≤ 1000000000000000) (h3 : 0 ≤ y) (h4 : y ≤ 10000) : Fun Tryz.prog 103 [.v (.int .u64 x), .v (.int .u64 y)] (.tup [.v (.int .u64 0), .v (.int .u64 (x * y))]) := by
  have sh := fun a => shr32 .u64 rfl a
  have a1 := and32 h1 (by omega)
  have a2 := and32 h3 (by omega)
  have hy : y % 4294967296 = y := by omega
  have hy2 : y / 4294967296 = 0 := by omega
  rw [hy] at a2
  generalize hx0 : x % 4294967296 = x0 at *
  generalize hx1 : x / 4294967296 = x1 at *
  have hb0 : 0 ≤ x0 ∧ x0 < 4294967296 := by omega
  have hb1 : 0 ≤ x1 ∧ x1 ≤ 232830 := by omega
  have p0 : 0 ≤ x0 * y ∧ x0 * y ≤ 42949672960000 := ⟨Int.mul_nonneg hb0.1 h3, by
    have := Int.mul_le_mul (show x0 ≤ 4294967296 by omega) h4 h3 (by omega); omega⟩
  have p1 : 0 ≤ x1 * y ∧ x1 * y ≤ 2328300000 := ⟨Int.mul_nonneg hb1.1 h3, by
    have := Int.mul_le_mul hb1.2 h4 h3 (by omega); omega⟩
  have p2 : 0 ≤ x * y ∧ x * y ≤ 10000000000000000000 := ⟨Int.mul_nonneg h1 h3, by
    have := Int.mul_le_mul h2 h4 h3 (by omega); omega⟩
  have w0 : IntKind.u64.wrap (x0 * y) = x0 * y := wrap_u p0.1 (by omega)
  have w1 : IntKind.u64.wrap (x1 * y) = x1 * y := wrap_u p1.1 (by omega)
  have w2 : IntKind.u64.wrap (x * y) = x * y := wrap_u p2.1 (by omega)
  generalize hq : x0 * y / 4294967296 = q at *
  have hq2 : 0 ≤ q ∧ q ≤ 10000 := by omega
  have w3 : IntKind.u64.wrap (x1 * y + q) = x1 * y + q := wrap_u (by omega) (by omega)
  have a3 := and32 (a := x1 * y + q) (by omega) (by omega)
  have hm : (x1 * y + q) % 4294967296 = x1 * y + q := by omega
  have hd : (x1 * y + q) / 4294967296 = 0 := by omega
  rw [hm] at a3
  have z1 : IntKind.u64.wrap (x0 * 0) = 0 := by rw [Int.mul_zero]; decide
  have z2 : IntKind.u64.wrap (x1 * 0) = 0 := by rw [Int.mul_zero]; decide
  have z3 : IntKind.u64.wrap (0 + 0) = 0 := by decide
  have z4 : IntKind.u64.wrap (x1 * y + q + 0) = x1 * y + q := by rw [Int.add_zero]; exact w3
  refine fun_W mixed Tryz.func103 rfl (Nat.le_of_ble_eq_true rfl) (by kernel_rfl) fun cx hN hR hF hL => ?_; apply args_k; (case hA => (simp only [go_sem, ↓reduceIte]; rfl))
  (try ((try (revert K;refine bK ?_));refine' run (I sh (I hx1 (I hy2 w2))) ?_;(repeat' first|exact True.intro|refine Lv.mk ?_ ?_|(refine oK ?_;intro K hK)|intro hq);all_goals refine Lf.mk ?_))
  show IntKind.u64.wrap (IntKind.u64.wrap (IntKind.u64.wrap (x1 * 0) + IntKind.u64.wrap (IntKind.u64.wrap (x1 * m32 y) + IntKind.u64.wrap (m32 x * m32 y) / 4294967296) / 4294967296) + IntKind.u64.wrap (m32 (IntKind.u64.wrap (IntKind.u64.wrap (x1 * m32 y) + IntKind.u64.wrap (m32 x * m32 y) / 4294967296)) + IntKind.u64.wrap (m32 x * 0)) / 4294967296) = 0
  rw [a1, a2, w0, w1, hq, w3, hd, a3, z1, z2, z3, z4, hd]
  decide

attribute [local go_sem] decide_false in
theorem div64_f (lo d : Int) (h1 : 0 ≤ lo) (h2 : lo ≤ 18446744073709551615) (h3 : 0 < d) (h4 : d ≤ 10000) : Fun Tryz.prog 104 [.v (.int .u64 0), .v (.int .u64 lo), .v (.int .u64 d)] (.tup [.v (.int .u64 (lo / d)), .v (.int .u64 (lo % d))]) := by
  have hz : (d = 0) = False := eq_false (by omega)
  have hz2 : ¬ d = 0 := by omega
  have hle : (d ≤ 0) = False := eq_false (by omega)
  have q1 : lo.tdiv d = lo / d := Int.tdiv_eq_ediv_of_nonneg h1
  have q2 : lo.tmod d = lo % d := Int.tmod_eq_emod_of_nonneg h1
  have g1 : 0 ≤ lo / d := Int.ediv_nonneg h1 (by omega)
  have g2 : lo / d ≤ lo := Int.ediv_le_self _ h1
  have w : IntKind.u64.wrap (lo / d) = lo / d := wrap_u g1 (by omega)
  refine fun_W mixed Tryz.func104 rfl (Nat.le_of_ble_eq_true rfl) (by kernel_rfl) fun cx hN hR hF hL => ?_; apply args_k; (case hA => (simp only [go_sem, ↓reduceIte]; rfl))
  (try ((try (revert K;refine bK ?_));refine' run (I hz (I hle (I q1 (I q2 w)))) ?_;(repeat' first|exact True.intro|refine Lv.mk ?_ ?_|(refine oK ?_;intro K hK)|intro hq);all_goals refine Lf.mk ?_))

theorem up_f (q r : Int) (h1 : 0 ≤ q) (h2 : 0 ≤ r) (h3 : r ≤ 10000) : Fun Tryz.prog 102 [.v (.int .u64 q), .v (.int .u64 r), .v (.int .u64 10000)] (bool (decide (r > 10000 - r) || (decide (r = 10000 - r) && decide (q % 2 = 1)))) := by
  have w : IntKind.u64.wrap (10000 - r) = 10000 - r := wrap_u (by omega) (by omega)
  have q2 : q.tmod 2 = q % 2 := Int.tmod_eq_emod_of_nonneg h1
  refine fun_W mixed Tryz.func102 rfl (Nat.le_of_ble_eq_true rfl) (by kernel_rfl) fun cx hN hR hF hL => ?_; apply args_k; (case hA => (simp only [go_sem, ↓reduceIte]; rfl))
  have rr : intBin .rem .u64 q 2 = some (.v (.int .u64 (q % 2))) := by rw [ib_rem _ _ _ (by decide), q2]
  (try ((try (revert K;refine bK ?_));refine' run (I w rr) ?_;(repeat' first|exact True.intro|refine Lv.mk ?_ ?_|(refine oK ?_;intro K hK)|intro hq);all_goals refine Lf.mk ?_))
  all_goals exact fun h _ => h
theorem evenN_f : Fun Tryz.prog 97 [] (.agg [.v (.func (.func 102) #[] #[])]) := by
  refine fun_W mixed Tryz.func97 rfl (Nat.le_of_ble_eq_true rfl) (by kernel_rfl) fun cx hN hR hF hL => ?_; apply args_k; (case hA => (simp only [go_sem, ↓reduceIte]; rfl))
  (try ((try (revert K;refine bK ?_));refine' run trivial ?_;(repeat' first|exact True.intro|refine Lv.mk ?_ ?_|(refine oK ?_;intro K hK)|intro hq);all_goals refine Lf.mk ?_))

attribute [local go_sem] Int.reduceEq Int.reduceLT decide_false in
set_option maxHeartbeats 4000000 in
theorem of_f (m bp : Int) (h1 : 0 ≤ m) (h2 : m ≤ 1000000000000000) (h3 : 1 ≤ bp) (h4 : bp ≤ 10000) : Fun Tryz.prog 98 [.agg [.v (.func (.func 102) #[] #[])], int m, int bp, int 10000] (.tup [int (bpE m bp), int 0]) := by
  have c3 : IntKind.u64.wrap 10000 = 10000 := by decide
  have p2 : 0 ≤ m * bp ∧ m * bp ≤ 10000000000000000000 := ⟨Int.mul_nonneg h1 (by omega), by
    have := Int.mul_le_mul h2 h4 (by omega) (by omega); omega⟩
  have g1 : (m < 0) = False := eq_false (by omega)
  have g2 : (bp < 0) = False := eq_false (by omega)
  have c1 : IntKind.u64.wrap m = m := wrap_u (by omega) (by omega)
  have c2 : IntKind.u64.wrap bp = bp := wrap_u (by omega) (by omega)
  have k1 := mul64_f m bp h1 h2 (by omega) h4
  have k2 := div64_f (m * bp) 10000 p2.1 (by omega) (by omega) (by omega)
  have hbd := bpE_bd h1 h3 h4
  unfold bpE at *
  simp only at *
  generalize m * bp = x at *
  have k3 := up_f (x / 10000) (x % 10000) (by omega) (by omega) (by omega)
  have hq : (x / 10000 > 4000000000000000000) = False := eq_false (by omega)
  have w1 : IntKind.u64.wrap (x / 10000 + 1) = x / 10000 + 1 := wrap_u (by omega) (by omega)
  have w2 : IntKind.i64.wrap (x / 10000) = x / 10000 := wrap_id (by omega) (by omega)
  have w3 : IntKind.i64.wrap (x / 10000 + 1) = x / 10000 + 1 := wrap_id (by omega) (by omega)
  have hq1 : (x / 10000 + 1 > 4000000000000000000) = False := eq_false (by omega)
  by_cases hc : x % 10000 > 10000 - x % 10000 ∨ x % 10000 = 10000 - x % 10000 ∧ x / 10000 % 2 = 1
  · have hd : (decide (x % 10000 > 10000 - x % 10000) || (decide (x % 10000 = 10000 - x % 10000) && decide (x / 10000 % 2 = 1))) = true := by simpa using hc
    rw [hd] at k3
    rw [if_pos hc]
    refine fun_W mixed Tryz.func98 rfl (Nat.le_of_ble_eq_true rfl) (by kernel_rfl) fun cx hN hR hF hL => ?_; apply args_k; (case hA => (simp only [go_sem, ↓reduceIte]; rfl))
    (repeat' first|((try (revert K;refine bK ?_));refine' run (I g1 (I g2 (I c1 (I c2 (I c3 (I hq (I w1 (I w2 (I w3 hq1))))))))) ?_;(repeat' first|exact True.intro|refine Lv.mk ?_ ?_|(refine oK ?_;intro K hK)|intro hq);all_goals refine Lf.mk ?_)|refine callZ cl103 (k1) ?_|refine callZ cl104 (k2) ?_|refine callZ cl102 (k3) ?_)
  · have hd : (decide (x % 10000 > 10000 - x % 10000) || (decide (x % 10000 = 10000 - x % 10000) && decide (x / 10000 % 2 = 1))) = false := by
      rw [Bool.eq_false_iff]; simpa using hc
    rw [hd] at k3
    rw [if_neg hc]
    refine fun_W mixed Tryz.func98 rfl (Nat.le_of_ble_eq_true rfl) (by kernel_rfl) fun cx hN hR hF hL => ?_; apply args_k; (case hA => (simp only [go_sem, ↓reduceIte]; rfl))
    (repeat' first|((try (revert K;refine bK ?_));refine' run (I g1 (I g2 (I c1 (I c2 (I c3 (I hq (I w1 (I w2 (I w3 hq1))))))))) ?_;(repeat' first|exact True.intro|refine Lv.mk ?_ ?_|(refine oK ?_;intro K hK)|intro hq);all_goals refine Lf.mk ?_)|refine callZ cl103 (k1) ?_|refine callZ cl104 (k2) ?_|refine callZ cl102 (k3) ?_)
theorem bp_f (m bp : Int) (h1 : 0 ≤ m) (h2 : m ≤ 1000000000000000) (h3 : 1 ≤ bp) (h4 : bp ≤ 10000) : Fun Tryz.prog 75 [int m, int bp] (.tup [int (bpE m bp), int 0]) := by
  have k : Fun Tryz.prog 90 [int m, int bp, int 10000] (.tup [int (bpE m bp), int 0]) := by
    refine fun_W mixed Tryz.func90 rfl (Nat.le_of_ble_eq_true rfl) (by kernel_rfl) fun cx hN hR hF hL => ?_; apply args_k; (case hA => (simp only [go_sem, ↓reduceIte]; rfl))
    (repeat' first|((try (revert K;refine bK ?_));refine' run trivial ?_;(repeat' first|exact True.intro|refine Lv.mk ?_ ?_|(refine oK ?_;intro K hK)|intro hq);all_goals refine Lf.mk ?_)|refine callZ cl97 (evenN_f) ?_|refine callZ cl98 (of_f m bp h1 h2 h3 h4) ?_)
  refine fun_W mixed Tryz.func75 rfl (Nat.le_of_ble_eq_true rfl) (by kernel_rfl) fun cx hN hR hF hL => ?_; apply args_k; (case hA => (simp only [go_sem, ↓reduceIte]; rfl))
  (repeat' first|((try (revert K;refine bK ?_));refine' run trivial ?_;(repeat' first|exact True.intro|refine Lv.mk ?_ ?_|(refine oK ?_;intro K hK)|intro hq);all_goals refine Lf.mk ?_)|refine callZ cl90 (k) ?_)
end Go.Proofs.YtjplhfmakghabaaGreat.V
namespace Go.Proofs.YtjplhfmakghabaaGreat.V
open Go.RowKit
set_option maxRecDepth 100000
attribute [local go_sem] Option.toList_some Option.toList_none

theorem cover_rises {c : Cover} (hc : c.ok) : (decide (0 ≤ c.peril) && decide (c.peril < 8) && (decide (1 ≤ c.share) && decide (c.share ≤ 10000)) && rises [0, c.ded, IntKind.i64.wrap (c.limit - 1), IntKind.i64.wrap (c.agg - 1), 999999999999999] && decide (c.ded < c.limit)) = c.rightB := by
  obtain ⟨⟨a1, a2⟩, ⟨b1, b2⟩, ⟨c1, c2⟩, ⟨d1, d2⟩, e1, e2⟩ := hc
  have w : ∀ n : Int, -9223372036854775808 ≤ n → n ≤ 9223372036854775807 → IntKind.i64.wrap (n - 1) = if n = -9223372036854775808 then 9223372036854775807 else n - 1 := by
    intro n h1 h2
    split
    · rename_i h; subst h; decide
    · exact wrap_id (by omega) (by omega)
  rw [w _ b1 b2, w _ c1 c2, Bool.eq_iff_iff]
  unfold Cover.rightB
  rw [cvRight_iff]
  simp only [rises, Bool.and_eq_true, decide_eq_true_eq, Bool.and_true]
  split <;> split <;> omega

theorem cRight_f (c : Cover) (hc : c.ok) : Fun Tryz.prog 46 [.agg c.flat] (bool c.rightB) := by
  rw [← cover_rises hc]
  refine fun_W mixed Tryz.func46 rfl (Nat.le_of_ble_eq_true rfl) (by kernel_rfl) fun cx hN hR hF hL => ?_; apply args_k; (case hA => (simp only [go_sem, ↓reduceIte]; rfl))
  (try ((try (revert K;refine bK ?_));refine' run trivial ?_;(repeat' first|exact True.intro|refine Lv.mk ?_ ?_|(refine oK ?_;intro K hK)|intro hq);all_goals refine Lf.mk ?_))
  (apply callL' [3104] cl74 (isSorted_f [0, c.ded, IntKind.i64.wrap (c.limit - 1), IntKind.i64.wrap (c.agg - 1), 999999999999999]); (case hp | hl => (simp only [go_sem, ↓reduceIte]; try rfl)); (case hx => (simp [AV.flat0])); (try (case hfz => (first | (simp only [go_sem]; done) | (simp [go_sem, fzo]; done)))))
  all_goals (try ((try (revert K;refine bK ?_));refine' run trivial ?_;(repeat' first|exact True.intro|refine Lv.mk ?_ ?_|(refine oK ?_;intro K hK)|intro hq);all_goals refine Lf.mk ?_))
  · rw [hq, Bool.true_and]
  · rw [hq, Bool.false_and, Bool.false_and]
theorem rCover_f (c : Cover) : Fun Tryz.prog 39 [.agg c.flat] (bool c.rightB) := by
  refine fun_W mixed Tryz.func39 rfl (Nat.le_of_ble_eq_true rfl) (by kernel_rfl) fun cx hN hR hF hL => ?_; apply args_k; (case hA => (simp only [go_sem, ↓reduceIte]; rfl))
  (try ((try (revert K;refine bK ?_));refine' run trivial ?_;(repeat' first|exact True.intro|refine Lv.mk ?_ ?_|(refine oK ?_;intro K hK)|intro hq);all_goals refine Lf.mk ?_))
  all_goals rw [Bool.eq_iff_iff]
  all_goals unfold Cover.rightB
  all_goals rw [cvRight_iff]
  all_goals simp only [Bool.and_eq_true, decide_eq_true_eq, Bool.false_eq_true, false_iff]
  all_goals omega
theorem leastL_f (a : Int) (l : List Int) : Fun Tryz.prog 49 [int a, ints l] (int (max (l.foldl min a) 0)) := by
  refine fun_W mixed Tryz.func49 rfl (Nat.le_of_ble_eq_true rfl) (by kernel_rfl) fun cx hN hR hF hL => ?_; apply args_k; (case hA => (simp only [go_sem, ↓reduceIte]; rfl))
  have hl : l.length ≤ 9223372036854775807 := by
    have := hL
    simp [maxLen] at this
    omega
  (try ((try (revert K;refine bK ?_));refine' run trivial ?_;(repeat' first|exact True.intro|refine Lv.mk ?_ ?_|(refine oK ?_;intro K hK)|intro hq);all_goals refine Lf.mk ?_))
  refine loopW mixed (σ := {i : Nat // i ≤ l.length}) (fun s => ⟨[(9, int s.1), (0, int ((l.take s.1).foldl min a)), (7, ints l), (8, int l.length)], [], 2000⟩) (fun s => l.length - s.1) id ⟨0, by omega⟩ (by rw [hN]; kernel_rfl) ?_ ?_
  · simp only [go_sem, ↓reduceIte, hF]
    exact ⟨rfl, rfl⟩
  · rintro ⟨i, h1⟩
    by_cases hi : i < l.length
    · have hq : l[i]? = some l[i] := List.getElem?_eq_getElem hi
      have e1 : (l.map irow)[i]? = some (irow l[i]) := by rw [List.getElem?_map, hq]; rfl
      have e5 : IntKind.i64.wrap ((i : Int) + 1) = ((i + 1 : Nat) : Int) := by rw [wrap_id] <;> omega
      have hk1 : i < (l.map irow).length := by simpa using hi
      have hs : (l.take (i + 1)).foldl min a = min ((l.take i).foldl min a) l[i] := by rw [List.take_succ_eq_append_getElem hi, List.foldl_append]; rfl
      generalize l[i] = q at *
      (try ((try (revert K;refine bK ?_));refine' run (I e1 (I e5 hk1)) ?_;(repeat' first|exact True.intro|refine Lv.mk ?_ ?_|(refine oK ?_;intro K hK)|intro hq);all_goals refine Lf.mk ?_))
      refine ⟨⟨i + 1, hi⟩, id, ?_, by show l.length - (i + 1) < l.length - i; omega⟩
      simp only [hs]
      simp only [go_sem, ↓reduceIte, hF]
    · obtain rfl : i = l.length := by omega
      simp only [List.take_length]
      (try ((try (revert K;refine bK ?_));refine' run trivial ?_;(repeat' first|exact True.intro|refine Lv.mk ?_ ?_|(refine oK ?_;intro K hK)|intro hq);all_goals refine Lf.mk ?_))

theorem least1_f (a b : Int) : Fun Tryz.prog 49 [int a, ints [b]] (int (max (min a b) 0)) := leastL_f a [b]
theorem tClaim_f (c : Cover) (loss : Int) (h : Int64 (loss - c.ded)) : Fun Tryz.prog 47 [.agg c.flat, int loss] (int (max (min (loss - c.ded) c.limit) 0)) := by
  have w : IntKind.i64.wrap (loss - c.ded) = loss - c.ded := wrap_id h.1 h.2
  refine fun_W mixed Tryz.func47 rfl (Nat.le_of_ble_eq_true rfl) (by kernel_rfl) fun cx hN hR hF hL => ?_; apply args_k; (case hA => (simp only [go_sem, ↓reduceIte]; rfl))
  (repeat' first|((try (revert K;refine bK ?_));refine' run w ?_;(repeat' first|exact True.intro|refine Lv.mk ?_ ?_|(refine oK ?_;intro K hK)|intro hq);all_goals refine Lf.mk ?_)|(with_reducible apply callFX [1048] cl49 (least1_f (loss - c.ded) c.limit);(case hy|hl|hk=>(simp only [go_sem, ↓reduceIte];try with_unfolding_all rfl));(case hz=>(with_unfolding_all simp [go_sem,fzo, w];done))))
theorem tShare_f (c : Cover) (amt : Int) (h1 : 0 ≤ amt) (h2 : amt ≤ 1000000000000000) (h3 : 1 ≤ c.share) (h4 : c.share ≤ 10000) : Fun Tryz.prog 48 [.agg c.flat, int amt] (int (bpE amt c.share)) := by
  refine fun_W mixed Tryz.func48 rfl (Nat.le_of_ble_eq_true rfl) (by kernel_rfl) fun cx hN hR hF hL => ?_; apply args_k; (case hA => (simp only [go_sem, ↓reduceIte]; rfl))
  (repeat' first|((try (revert K;refine bK ?_));refine' run trivial ?_;(repeat' first|exact True.intro|refine Lv.mk ?_ ?_|(refine oK ?_;intro K hK)|intro hq);all_goals refine Lf.mk ?_)|refine callZ cl75 (bp_f amt c.share h1 h2 h3 h4) ?_)

attribute [local go_sem] decide_false in
set_option maxHeartbeats 4000000 in
theorem pays_f (c : Cover) (loss used : Int) (hc : c.ok) (hl : Int64 loss) (hu : Int64 used) : Fun Tryz.prog 28 [.agg c.flat, int loss, int used] (int (pays c loss used)) := by
  unfold pays
  by_cases h : c.rightB = true ∧ 0 ≤ loss ∧ 0 ≤ used
  · rw [if_pos h]
    obtain ⟨h1, h2, h3⟩ := h
    have hr := cvRight_iff.1 h1
    unfold worth0
    have g1 : (loss < 0) = False := eq_false (by omega)
    have g2 : (used < 0) = False := eq_false (by omega)
    have w : IntKind.i64.wrap (c.agg - used) = c.agg - used := by
      have := hu.2
      rw [wrap_id] <;> omega
    have k1 := tClaim_f c loss (by have := hl.2; unfold Int64; omega)
    have k2 := tShare_f c (max (min (loss - c.ded) c.limit) 0) (by omega) (by omega) hr.2.2.1 hr.2.2.2.1
    refine fun_W mixed Tryz.func28 rfl (Nat.le_of_ble_eq_true rfl) (by kernel_rfl) fun cx hN hR hF hL => ?_; apply args_k; (case hA => (simp only [go_sem, ↓reduceIte]; rfl))
    (repeat' first|((try (revert K;refine bK ?_));refine' run (I h1 (I g1 (I g2 w))) ?_;(repeat' first|exact True.intro|refine Lv.mk ?_ ?_|(refine oK ?_;intro K hK)|intro hq);all_goals refine Lf.mk ?_)|refine callZ cl46 (cRight_f c hc) ?_)
    refine loopW mixed (σ := {i : Nat // i = 0 ∨ i = 1 ∨ i = 2}) (fun s => ⟨[(28, int s.1), (7, int (if s.1 = 0 then loss else if s.1 = 1 then max (min (loss - c.ded) c.limit) 0 else bpE (max (min (loss - c.ded) c.limit) 0) c.share)), (27, int (2 : Nat)), (26, .osl 3032 1 0 2), (2, int used), (3, .ptr 0 0)],
      [(3032, some ⟨87, [.fn (.func 47) [.agg c.flat] [], .fn (.func 48) [.agg c.flat] []]⟩), (0, some ⟨23, c.flat⟩)], 4000⟩) (fun s => 2 - s.1) id ⟨0, .inl rfl⟩ (by rw [hN]; kernel_rfl) ?_ ?_
    · simp only [go_sem, ↓reduceIte, hF]
      rfl
    · rintro ⟨i, hi⟩
      rcases hi with rfl | rfl | rfl
      · have d1 : (((0 : Nat) : Int) < ((2 : Nat) : Int)) = True := eq_true (by omega)
        have d2 : IntKind.i64.wrap (((0 : Nat) : Int) + 1) = ((1 : Nat) : Int) := by decide
        simp only [if_true]
        (repeat' first|((try (revert K;refine bK ?_));refine' run (I d1 d2) ?_;(repeat' first|exact True.intro|refine Lv.mk ?_ ?_|(refine oK ?_;intro K hK)|intro hq);all_goals refine Lf.mk ?_)|refine callZ cl47 (k1) ?_)
        refine ⟨⟨1, .inr (.inl rfl)⟩, id, ?_, by show 2 - 1 < 2 - 0; omega⟩
        simp only [go_sem, ↓reduceIte, hF]
      · have d1 : (((1 : Nat) : Int) < ((2 : Nat) : Int)) = True := eq_true (by omega)
        have d2 : IntKind.i64.wrap (((1 : Nat) : Int) + 1) = ((2 : Nat) : Int) := by decide
        simp only [Nat.succ_ne_zero, Nat.reduceEqDiff, if_true, if_false]
        (repeat' first|((try (revert K;refine bK ?_));refine' run (I d1 d2) ?_;(repeat' first|exact True.intro|refine Lv.mk ?_ ?_|(refine oK ?_;intro K hK)|intro hq);all_goals refine Lf.mk ?_)|refine callZ cl48 (k2) ?_)
        refine ⟨⟨2, .inr (.inr rfl)⟩, id, ?_, by show 2 - 2 < 2 - 1; omega⟩
        simp only [go_sem, ↓reduceIte, hF]
      · have d1 : (((2 : Nat) : Int) < ((2 : Nat) : Int)) = False := eq_false (by omega)
        simp only [Nat.succ_ne_zero, Nat.reduceEqDiff, if_false]
        (repeat' first|((try (revert K;refine bK ?_));refine' run (I d1 w) ?_;(repeat' first|exact True.intro|refine Lv.mk ?_ ?_|(refine oK ?_;intro K hK)|intro hq);all_goals refine Lf.mk ?_)|(with_reducible apply callFX [5040] cl49 (least1_f (bpE (max (min (loss - c.ded) c.limit) 0) c.share) (c.agg - used));(case hy|hl|hk=>(simp only [go_sem, ↓reduceIte];try with_unfolding_all rfl));(case hz=>(with_unfolding_all simp [go_sem,fzo, d1, w];done))))
  · rw [if_neg h]
    have h' : (!c.rightB || decide (loss < 0) || decide (used < 0)) = true := by
      cases h1 : c.rightB with
      | false => rfl
      | true =>
        have : ¬ (0 ≤ loss ∧ 0 ≤ used) := fun g => h ⟨h1, g⟩
        simp
        omega
    refine fun_W mixed Tryz.func28 rfl (Nat.le_of_ble_eq_true rfl) (by kernel_rfl) fun cx hN hR hF hL => ?_; apply args_k; (case hA => (simp only [go_sem, ↓reduceIte]; rfl))
    (repeat' first|((try (revert K;refine bK ?_));refine' run h' ?_;(repeat' first|exact True.intro|refine Lv.mk ?_ ?_|(refine oK ?_;intro K hK)|intro hq);all_goals refine Lf.mk ?_)|refine callZ cl46 (cRight_f c hc) ?_)

theorem part_eq (m bp : Int) : m * bp / 10000 = m / 10000 * bp + m % 10000 * bp / 10000 ∧ m * bp % 10000 = m % 10000 * bp % 10000 := by
  have h : m * bp = m / 10000 * bp * 10000 + m % 10000 * bp := by
    have h1 := Int.mul_ediv_add_emod m 10000
    have h2 : m * bp = (10000 * (m / 10000) + m % 10000) * bp := by rw [h1]
    rw [h2, Int.add_mul, Int.mul_assoc, Int.mul_comm 10000]
  rw [h]
  generalize m / 10000 * bp = a
  generalize m % 10000 * bp = b
  omega
set_option maxHeartbeats 4000000 in
theorem part_f (m bp : Int) (h1 : 0 ≤ m) (h2 : m ≤ 1000000000000000) (h3 : 1 ≤ bp) (h4 : bp ≤ 10000) : Fun Tryz.prog 40 [int m, int bp] (int (bpE m bp)) := by
  obtain ⟨q1, q2⟩ := part_eq m bp
  have hbd := bpE_bd h1 h3 h4
  unfold bpE at *
  simp only at *
  rw [q1, q2] at *
  have t1 : m.tdiv 10000 = m / 10000 := Int.tdiv_eq_ediv_of_nonneg h1
  have t2 : m.tmod 10000 = m % 10000 := Int.tmod_eq_emod_of_nonneg h1
  have b1 : 0 ≤ m / 10000 ∧ m / 10000 ≤ 100000000000 := by omega
  have b2 : 0 ≤ m % 10000 ∧ m % 10000 ≤ 9999 := by omega
  have p1 : 0 ≤ m / 10000 * bp ∧ m / 10000 * bp ≤ 1000000000000000 := ⟨Int.mul_nonneg b1.1 (by omega), by
    have := Int.mul_le_mul b1.2 h4 (by omega) (by omega); omega⟩
  have p2 : 0 ≤ m % 10000 * bp ∧ m % 10000 * bp ≤ 99990000 := ⟨Int.mul_nonneg b2.1 (by omega), by
    have := Int.mul_le_mul b2.2 h4 (by omega) (by omega); omega⟩
  have w0 : IntKind.i64.wrap (m / 10000) = m / 10000 := wrap_id (by omega) (by omega)
  generalize hA : m / 10000 * bp = A at *
  generalize hB : m % 10000 * bp = B at *
  have w1 : IntKind.i64.wrap A = A := wrap_id (by omega) (by omega)
  have w2 : IntKind.i64.wrap B = B := wrap_id (by omega) (by omega)
  have t3 : B.tdiv 10000 = B / 10000 := Int.tdiv_eq_ediv_of_nonneg (by omega)
  have t4 : B.tmod 10000 = B % 10000 := Int.tmod_eq_emod_of_nonneg (by omega)
  have w3 : IntKind.i64.wrap (B / 10000) = B / 10000 := wrap_id (by omega) (by omega)
  have w4 : IntKind.i64.wrap (A + B / 10000) = A + B / 10000 := wrap_id (by omega) (by omega)
  have w5 : IntKind.i64.wrap (B / 10000 + 1) = B / 10000 + 1 := wrap_id (by omega) (by omega)
  have w6 : IntKind.i64.wrap (A + (B / 10000 + 1)) = A + B / 10000 + 1 := by rw [wrap_id] <;> omega
  have t5 : (A + B / 10000).tmod 2 = (A + B / 10000) % 2 := Int.tmod_eq_emod_of_nonneg (by omega)
  have r1 : intBin .rem .i64 m 10000 = some (.v (.int .i64 (m % 10000))) := by rw [ib_rem _ _ _ (by decide), t2]
  have r2 : intBin .rem .i64 B 10000 = some (.v (.int .i64 (B % 10000))) := by rw [ib_rem _ _ _ (by decide), t4]
  have r3 : intBin .rem .i64 (A + B / 10000) 2 = some (.v (.int .i64 ((A + B / 10000) % 2))) := by rw [ib_rem _ _ _ (by decide), t5]
  have r4 : intBin .quo .i64 m 10000 = some (.v (.int .i64 (m / 10000))) := by rw [ib_quo _ _ _ (by decide), t1, w0]
  have r5 : intBin .quo .i64 B 10000 = some (.v (.int .i64 (B / 10000))) := by rw [ib_quo _ _ _ (by decide), t3, w3]
  refine fun_W mixed Tryz.func40 rfl (Nat.le_of_ble_eq_true rfl) (by kernel_rfl) fun cx hN hR hF hL => ?_; apply args_k; (case hA => (simp only [go_sem, ↓reduceIte]; rfl))
  (try ((try (revert K;refine bK ?_));refine' run (I r1 (I r2 (I r3 (I r4 (I r5 (I hA (I hB (I w1 (I w2 (I w4 (I w5 w6))))))))))) ?_;(repeat' first|exact True.intro|refine Lv.mk ?_ ?_|(refine oK ?_;intro K hK)|intro hq);all_goals refine Lf.mk ?_))
  · exact fun h _ => h

attribute [local go_sem] decide_false in
theorem rPays_f (c : Cover) (loss used : Int) (hc : c.ok) (hl : Int64 loss) (hu : Int64 used) : Fun Tryz.prog 23 [.agg c.flat, int loss, int used] (int (pays c loss used)) := by
  unfold pays
  by_cases h : c.rightB = true ∧ 0 ≤ loss ∧ 0 ≤ used
  · rw [if_pos h]
    obtain ⟨h1, h2, h3⟩ := h
    have hr := cvRight_iff.1 h1
    unfold worth0
    have g1 : (loss < 0) = False := eq_false (by omega)
    have g2 : (used < 0) = False := eq_false (by omega)
    have w : IntKind.i64.wrap (c.agg - used) = c.agg - used := by
      have := hu.2
      rw [wrap_id] <;> omega
    have w2 : IntKind.i64.wrap (loss - c.ded) = loss - c.ded := by
      have := hl.2
      rw [wrap_id] <;> omega
    have e : max 0 (min (loss - c.ded) c.limit) = max (min (loss - c.ded) c.limit) 0 := Int.max_comm _ _
    have k2 := part_f (max (min (loss - c.ded) c.limit) 0) c.share (by omega) (by omega) hr.2.2.1 hr.2.2.2.1
    refine fun_W mixed Tryz.func23 rfl (Nat.le_of_ble_eq_true rfl) (by kernel_rfl) fun cx hN hR hF hL => ?_; apply args_k; (case hA => (simp only [go_sem, ↓reduceIte]; rfl))
    (repeat' first|((try (revert K;refine bK ?_));refine' run (I h1 (I g1 (I g2 (I w (I w2 e))))) ?_;(repeat' first|exact True.intro|refine Lv.mk ?_ ?_|(refine oK ?_;intro K hK)|intro hq);all_goals refine Lf.mk ?_)|refine callZ cl39 (rCover_f c) ?_|refine callZ cl40 (k2) ?_)
  · rw [if_neg h]
    have h' : (!c.rightB || decide (loss < 0) || decide (used < 0)) = true := by
      cases h1 : c.rightB with
      | false => rfl
      | true =>
        have : ¬ (0 ≤ loss ∧ 0 ≤ used) := fun g => h ⟨h1, g⟩
        simp
        omega
    refine fun_W mixed Tryz.func23 rfl (Nat.le_of_ble_eq_true rfl) (by kernel_rfl) fun cx hN hR hF hL => ?_; apply args_k; (case hA => (simp only [go_sem, ↓reduceIte]; rfl))
    (repeat' first|((try (revert K;refine bK ?_));refine' run h' ?_;(repeat' first|exact True.intro|refine Lv.mk ?_ ?_|(refine oK ?_;intro K hK)|intro hq);all_goals refine Lf.mk ?_)|refine callZ cl39 (rCover_f c) ?_)
end Go.Proofs.YtjplhfmakghabaaGreat.V
set_option linter.unusedSimpArgs false
set_option linter.unusedVariables false
namespace Go.Proofs.YtjplhfmakghabaaGreat.V
open Go.RowKit
set_option maxRecDepth 100000
attribute [local go_sem] Option.toList_some Option.toList_none

theorem within_f (n a b : Int) : Fun Tryz.prog 73 [int n, int a, int b] (bool (inR n a b)) := by
  refine fun_W mixed Tryz.func73 rfl (Nat.le_of_ble_eq_true rfl) (by kernel_rfl) fun cx hN hR hF hL => ?_; apply args_k; (case hA => (simp only [go_sem, ↓reduceIte]; rfl))
  (try ((try (revert K;refine bK ?_));refine' run trivial ?_;(repeat' first|exact True.intro|refine Lv.mk ?_ ?_|(refine oK ?_;intro K hK)|intro hq);all_goals refine Lf.mk ?_))
  rfl
theorem formed_f (c : Claim) : Fun Tryz.prog 85 [.agg c.flat] (bool c.formedB) := by
  refine fun_W mixed Tryz.func85 rfl (Nat.le_of_ble_eq_true rfl) (by kernel_rfl) fun cx hN hR hF hL => ?_; apply args_k; (case hA => (simp only [go_sem, ↓reduceIte]; rfl))
  (repeat' first|((try (revert K;refine bK ?_));refine' run trivial ?_;(repeat' first|exact True.intro|refine Lv.mk ?_ ?_|(refine oK ?_;intro K hK)|intro hq);all_goals refine Lf.mk ?_)|refine callZ cl73 (within_f _ _ _) ?_)
  rfl
theorem refFormed_f (c : Claim) : Fun Tryz.prog 62 [.agg c.flat] (bool c.formedB) := by
  refine fun_W mixed Tryz.func62 rfl (Nat.le_of_ble_eq_true rfl) (by kernel_rfl) fun cx hN hR hF hL => ?_; apply args_k; (case hA => (simp only [go_sem, ↓reduceIte]; rfl))
  (try ((try (revert K;refine bK ?_));refine' run trivial ?_;(repeat' first|exact True.intro|refine Lv.mk ?_ ?_|(refine oK ?_;intro K hK)|intro hq);all_goals refine Lf.mk ?_))
  all_goals rw [Bool.eq_iff_iff]
  all_goals simp [Claim.formedB, inR] at *
  all_goals omega
theorem actRight_f (a : Act) : Fun Tryz.prog 99 [.agg a.flat] (bool a.rightB) := by
  refine fun_W mixed Tryz.func99 rfl (Nat.le_of_ble_eq_true rfl) (by kernel_rfl) fun cx hN hR hF hL => ?_; apply args_k; (case hA => (simp only [go_sem, ↓reduceIte]; rfl))
  (repeat' first|((try (revert K;refine bK ?_));refine' run trivial ?_;(repeat' first|exact True.intro|refine Lv.mk ?_ ?_|(refine oK ?_;intro K hK)|intro hq);all_goals refine Lf.mk ?_)|refine callZ cl73 (within_f _ _ _) ?_)
  all_goals simp [Act.rightB, hq]
theorem refAct_f (a : Act) : Fun Tryz.prog 92 [.agg a.flat] (bool a.rightB) := by
  refine fun_W mixed Tryz.func92 rfl (Nat.le_of_ble_eq_true rfl) (by kernel_rfl) fun cx hN hR hF hL => ?_; apply args_k; (case hA => (simp only [go_sem, ↓reduceIte]; rfl))
  (try ((try (revert K;refine bK ?_));refine' run trivial ?_;(repeat' first|exact True.intro|refine Lv.mk ?_ ?_|(refine oK ?_;intro K hK)|intro hq);all_goals refine Lf.mk ?_))
  all_goals rw [Bool.eq_iff_iff]
  all_goals simp [Act.rightB, inR] at *
  all_goals (try split)
  all_goals omega
theorem open_f (c : Claim) : Fun Tryz.prog 93 [.agg c.flat] (.agg (File.flat ⟨c, []⟩)) := by
  refine fun_W mixed Tryz.func93 rfl (Nat.le_of_ble_eq_true rfl) (by kernel_rfl) fun cx hN hR hF hL => ?_; apply args_k; (case hA => (simp only [go_sem, ↓reduceIte]; rfl))
  (try ((try (revert K;refine bK ?_));refine' run trivial ?_;(repeat' first|exact True.intro|refine Lv.mk ?_ ?_|(refine oK ?_;intro K hK)|intro hq);all_goals refine Lf.mk ?_))
theorem rOpen_f (c : Claim) : Fun Tryz.prog 82 [.agg c.flat] (.agg (File.flat ⟨c, []⟩)) := by
  refine fun_W mixed Tryz.func82 rfl (Nat.le_of_ble_eq_true rfl) (by kernel_rfl) fun cx hN hR hF hL => ?_; apply args_k; (case hA => (simp only [go_sem, ↓reduceIte]; rfl))
  (try ((try (revert K;refine bK ?_));refine' run trivial ?_;(repeat' first|exact True.intro|refine Lv.mk ?_ ?_|(refine oK ?_;intro K hK)|intro hq);all_goals refine Lf.mk ?_))
theorem last_f (f : File) (hl : f.acts.length ≤ 100000) : Fun Tryz.prog 100 [.agg f.flat] (int (lastB f)) := by
  unfold lastB
  rcases List.eq_nil_or_concat f.acts with h | ⟨p, x, h⟩
  · rw [h]
    refine fun_W mixed Tryz.func100 rfl (Nat.le_of_ble_eq_true rfl) (by kernel_rfl) fun cx hN hR hF hL => ?_; apply args_k; (case hA => (simp only [go_sem, ↓reduceIte]; rfl))
    (try ((try (revert K;refine bK ?_));refine' run h ?_;(repeat' first|exact True.intro|refine Lv.mk ?_ ?_|(refine oK ?_;intro K hK)|intro hq);all_goals refine Lf.mk ?_))
    rfl
  · rw [List.concat_eq_append] at h
    have hlen : (f.acts.length : Int) = (p.length : Int) + 1 := by rw [h, List.length_append, List.length_singleton]; omega
    have hg : ((f.acts.length : Int) > 0) = True := eq_true (by omega)
    have w1 : IntKind.i64.wrap ((f.acts.length : Int) - 1) = (p.length : Int) := by rw [wrap_id] <;> omega
    have e1 : (f.acts.map Act.flat)[p.length]? = some x.flat := by rw [h]; simp
    have hk : p.length < (f.acts.map Act.flat).length := by rw [h]; simp
    have w2 : ((p.length : Int) < (f.acts.length : Int)) = True := eq_true (by omega)
    have hr : f.acts.getLast? = some x := by rw [h]; simp
    rw [hr]
    refine fun_W mixed Tryz.func100 rfl (Nat.le_of_ble_eq_true rfl) (by kernel_rfl) fun cx hN hR hF hL => ?_; apply args_k; (case hA => (simp only [go_sem, ↓reduceIte]; rfl))
    (try ((try (revert K;refine bK ?_));refine' run (I hg (I w1 (I e1 (I hk w2)))) ?_;(repeat' first|exact True.intro|refine Lv.mk ?_ ?_|(refine oK ?_;intro K hK)|intro hq);all_goals refine Lf.mk ?_))
  
/-- How a file stands, in memory. -/
@[go_sem] def posC (s : St) : List AV := [int s.gross, int s.shown, int 0, int s.back, int 0, bool s.opn]
theorem stOne_1 (s : St) (b n : Int) : stOne s ⟨b, 1, n⟩ = ⟨n, s.shown, s.back, s.opn⟩ := rfl
theorem stOne_2 (s : St) (b n : Int) : stOne s ⟨b, 2, n⟩ = ⟨s.gross, IntKind.i64.wrap (s.shown + n), s.back, s.opn⟩ := rfl
theorem stOne_3 (s : St) (b n : Int) : stOne s ⟨b, 3, n⟩ = ⟨s.gross, s.shown, IntKind.i64.wrap (s.back + n), s.opn⟩ := rfl
theorem stOne_4 (s : St) (b n : Int) : stOne s ⟨b, 4, n⟩ = ⟨s.gross, s.shown, s.back, false⟩ := rfl
theorem stOne_5 (s : St) (b n : Int) : stOne s ⟨b, 5, n⟩ = ⟨s.gross, s.shown, s.back, true⟩ := rfl
theorem pos_gross (s : St) (b amt : Int) : FunB Tryz.prog 68 [(0, ⟨85, posC s⟩)] [.ptr 0 0, int amt] (.tup []) [(0, some ⟨85, posC (stOne s ⟨b, 1, amt⟩)⟩)] := by
  rw [stOne_1]
  refine fun_WB 1 mixed Tryz.func68 rfl (Nat.le_of_ble_eq_true rfl) (by kernel_rfl) (by simp [go_sem]) fun cx hN hR hF hL => ?_; apply args_kb; (case hA => (simp only [go_sem, ↓reduceIte]; rfl)); (case hB => (simp only [go_sem, ↓reduceIte]; rfl))
  (try ((try (revert K;refine bK ?_));refine' run trivial ?_;(repeat' first|exact True.intro|refine Lv.mk ?_ ?_|(refine oK ?_;intro K hK)|intro hq);all_goals refine Lf.mk ?_))
theorem pos_pay (s : St) (b amt : Int) : FunB Tryz.prog 69 [(0, ⟨85, posC s⟩)] [.ptr 0 0, int amt] (.tup []) [(0, some ⟨85, posC (stOne s ⟨b, 2, amt⟩)⟩)] := by
  rw [stOne_2]
  refine fun_WB 1 mixed Tryz.func69 rfl (Nat.le_of_ble_eq_true rfl) (by kernel_rfl) (by simp [go_sem]) fun cx hN hR hF hL => ?_; apply args_kb; (case hA => (simp only [go_sem, ↓reduceIte]; rfl)); (case hB => (simp only [go_sem, ↓reduceIte]; rfl))
  (try ((try (revert K;refine bK ?_));refine' run trivial ?_;(repeat' first|exact True.intro|refine Lv.mk ?_ ?_|(refine oK ?_;intro K hK)|intro hq);all_goals refine Lf.mk ?_))
theorem pos_recover (s : St) (b amt : Int) : FunB Tryz.prog 70 [(0, ⟨85, posC s⟩)] [.ptr 0 0, int amt] (.tup []) [(0, some ⟨85, posC (stOne s ⟨b, 3, amt⟩)⟩)] := by
  rw [stOne_3]
  refine fun_WB 1 mixed Tryz.func70 rfl (Nat.le_of_ble_eq_true rfl) (by kernel_rfl) (by simp [go_sem]) fun cx hN hR hF hL => ?_; apply args_kb; (case hA => (simp only [go_sem, ↓reduceIte]; rfl)); (case hB => (simp only [go_sem, ↓reduceIte]; rfl))
  (try ((try (revert K;refine bK ?_));refine' run trivial ?_;(repeat' first|exact True.intro|refine Lv.mk ?_ ?_|(refine oK ?_;intro K hK)|intro hq);all_goals refine Lf.mk ?_))
theorem pos_close (s : St) (b amt : Int) : FunB Tryz.prog 71 [(0, ⟨85, posC s⟩)] [.ptr 0 0, int amt] (.tup []) [(0, some ⟨85, posC (stOne s ⟨b, 4, amt⟩)⟩)] := by
  rw [stOne_4]
  refine fun_WB 1 mixed Tryz.func71 rfl (Nat.le_of_ble_eq_true rfl) (by kernel_rfl) (by simp [go_sem]) fun cx hN hR hF hL => ?_; apply args_kb; (case hA => (simp only [go_sem, ↓reduceIte]; rfl)); (case hB => (simp only [go_sem, ↓reduceIte]; rfl))
  (try ((try (revert K;refine bK ?_));refine' run trivial ?_;(repeat' first|exact True.intro|refine Lv.mk ?_ ?_|(refine oK ?_;intro K hK)|intro hq);all_goals refine Lf.mk ?_))
theorem pos_reopen (s : St) (b amt : Int) : FunB Tryz.prog 72 [(0, ⟨85, posC s⟩)] [.ptr 0 0, int amt] (.tup []) [(0, some ⟨85, posC (stOne s ⟨b, 5, amt⟩)⟩)] := by
  rw [stOne_5]
  refine fun_WB 1 mixed Tryz.func72 rfl (Nat.le_of_ble_eq_true rfl) (by kernel_rfl) (by simp [go_sem]) fun cx hN hR hF hL => ?_; apply args_kb; (case hA => (simp only [go_sem, ↓reduceIte]; rfl)); (case hB => (simp only [go_sem, ↓reduceIte]; rfl))
  (try ((try (revert K;refine bK ?_));refine' run trivial ?_;(repeat' first|exact True.intro|refine Lv.mk ?_ ?_|(refine oK ?_;intro K hK)|intro hq);all_goals refine Lf.mk ?_))
/-- The methods by kinds. -/
@[go_sem] def doesC : List AV := [.v .nilFunc, .v (.func (.func 68) #[] #[]), .v (.func (.func 69) #[] #[]), .v (.func (.func 70) #[] #[]), .v (.func (.func 71) #[] #[]), .v (.func (.func 72) #[] #[])]
attribute [local go_sem] Int.reduceLE Int.reduceLT Int.reduceToNat in
set_option maxHeartbeats 4000000 in
theorem stand_f (f : File) (hl : f.acts.length ≤ 100000) : Fun Tryz.prog 45 [.agg f.flat] (.agg (posC (standS f.acts))) := by
  obtain ⟨c, l⟩ := f
  simp only at hl ⊢
  refine fun_W mixed Tryz.func45 rfl (Nat.le_of_ble_eq_true rfl) (by kernel_rfl) fun cx hN hR hF hL => ?_; apply args_k; (case hA => (simp only [go_sem, ↓reduceIte]; rfl))
  (try ((try (revert K;refine bK ?_));refine' run trivial ?_;(repeat' first|exact True.intro|refine Lv.mk ?_ ?_|(refine oK ?_;intro K hK)|intro hq);all_goals refine Lf.mk ?_))
  refine loopW mixed (σ := {i : Nat // i ≤ l.length}) (fun s => ⟨[(12, int s.1), (11, int l.length), (10, actsA l), (4, .ptr 2008 0), (3, .ptr 1008 0), (2, .ptr 8 0)], [(2008, some ⟨85, posC (standS (l.take s.1))⟩), (1008, some ⟨112, doesC⟩), (8, some ⟨85, posC ⟨0, 0, 0, false⟩⟩)], 4000⟩) (fun s => l.length - s.1) id ⟨0, Nat.zero_le _⟩ (by rw [hN]; kernel_rfl) ?_ ?_
  · simp only [go_sem, ↓reduceIte, hF]
    exact ⟨rfl, rfl⟩
  · rintro ⟨i, h1⟩
    by_cases hi : i < l.length
    · have hq : l[i]? = some l[i] := List.getElem?_eq_getElem hi
      have e1 : (l.map Act.flat)[i]? = some l[i].flat := by rw [List.getElem?_map, hq]; rfl
      have e5 : IntKind.i64.wrap ((i : Int) + 1) = ((i + 1 : Nat) : Int) := by rw [wrap_id] <;> omega
      have hk1 : i < (l.map Act.flat).length := by simpa using hi
      have hs : standS (l.take (i + 1)) = stOne (standS (l.take i)) l[i] := by rw [List.take_succ_eq_append_getElem hi, standS_snoc]
      generalize l[i] = q at *
      generalize standS (l.take i) = s at *
      obtain ⟨bk, kd, am⟩ := q
      by_cases hk : 1 ≤ kd ∧ kd ≤ 5
      · rcases (by omega : kd = 1 ∨ kd = 2 ∨ kd = 3 ∨ kd = 4 ∨ kd = 5) with rfl | rfl | rfl | rfl | rfl
        · have hI : inR 1 1 5 = true := by decide
          (repeat' first|((try (revert K;refine bK ?_));refine' run (I e1 (I e5 (I hk1 hI))) ?_;(repeat' first|exact True.intro|refine Lv.mk ?_ ?_|(refine oK ?_;intro K hK)|intro hq);all_goals refine Lf.mk ?_)|refine callZ cl73 (within_f _ _ _) ?_)
          (apply callB' [2008] cl68 (pos_gross s bk am); (case h1 | h2 | h3 => (simp only [go_sem, ↓reduceIte]; try rfl)); (case hl | hs | hfp | hfr => (simp [go_sem]; done)))
          (try ((try (revert K;refine bK ?_));refine' run (I e1 (I e5 (I hk1 hI))) ?_;(repeat' first|exact True.intro|refine Lv.mk ?_ ?_|(refine oK ?_;intro K hK)|intro hq);all_goals refine Lf.mk ?_))
          refine ⟨⟨i + 1, hi⟩, id, ?_, by show l.length - (i + 1) < l.length - i; omega⟩
          simp only [hs]
          simp only [go_sem, ↓reduceIte, hF]
        · have hI : inR 2 1 5 = true := by decide
          (repeat' first|((try (revert K;refine bK ?_));refine' run (I e1 (I e5 (I hk1 hI))) ?_;(repeat' first|exact True.intro|refine Lv.mk ?_ ?_|(refine oK ?_;intro K hK)|intro hq);all_goals refine Lf.mk ?_)|refine callZ cl73 (within_f _ _ _) ?_)
          (apply callB' [2008] cl69 (pos_pay s bk am); (case h1 | h2 | h3 => (simp only [go_sem, ↓reduceIte]; try rfl)); (case hl | hs | hfp | hfr => (simp [go_sem]; done)))
          (try ((try (revert K;refine bK ?_));refine' run (I e1 (I e5 (I hk1 hI))) ?_;(repeat' first|exact True.intro|refine Lv.mk ?_ ?_|(refine oK ?_;intro K hK)|intro hq);all_goals refine Lf.mk ?_))
          refine ⟨⟨i + 1, hi⟩, id, ?_, by show l.length - (i + 1) < l.length - i; omega⟩
          simp only [hs]
          simp only [go_sem, ↓reduceIte, hF]
        · have hI : inR 3 1 5 = true := by decide
          (repeat' first|((try (revert K;refine bK ?_));refine' run (I e1 (I e5 (I hk1 hI))) ?_;(repeat' first|exact True.intro|refine Lv.mk ?_ ?_|(refine oK ?_;intro K hK)|intro hq);all_goals refine Lf.mk ?_)|refine callZ cl73 (within_f _ _ _) ?_)
          (apply callB' [2008] cl70 (pos_recover s bk am); (case h1 | h2 | h3 => (simp only [go_sem, ↓reduceIte]; try rfl)); (case hl | hs | hfp | hfr => (simp [go_sem]; done)))
          (try ((try (revert K;refine bK ?_));refine' run (I e1 (I e5 (I hk1 hI))) ?_;(repeat' first|exact True.intro|refine Lv.mk ?_ ?_|(refine oK ?_;intro K hK)|intro hq);all_goals refine Lf.mk ?_))
          refine ⟨⟨i + 1, hi⟩, id, ?_, by show l.length - (i + 1) < l.length - i; omega⟩
          simp only [hs]
          simp only [go_sem, ↓reduceIte, hF]
        · have hI : inR 4 1 5 = true := by decide
          (repeat' first|((try (revert K;refine bK ?_));refine' run (I e1 (I e5 (I hk1 hI))) ?_;(repeat' first|exact True.intro|refine Lv.mk ?_ ?_|(refine oK ?_;intro K hK)|intro hq);all_goals refine Lf.mk ?_)|refine callZ cl73 (within_f _ _ _) ?_)
          (apply callB' [2008] cl71 (pos_close s bk am); (case h1 | h2 | h3 => (simp only [go_sem, ↓reduceIte]; try rfl)); (case hl | hs | hfp | hfr => (simp [go_sem]; done)))
          (try ((try (revert K;refine bK ?_));refine' run (I e1 (I e5 (I hk1 hI))) ?_;(repeat' first|exact True.intro|refine Lv.mk ?_ ?_|(refine oK ?_;intro K hK)|intro hq);all_goals refine Lf.mk ?_))
          refine ⟨⟨i + 1, hi⟩, id, ?_, by show l.length - (i + 1) < l.length - i; omega⟩
          simp only [hs]
          simp only [go_sem, ↓reduceIte, hF]
        · have hI : inR 5 1 5 = true := by decide
          (repeat' first|((try (revert K;refine bK ?_));refine' run (I e1 (I e5 (I hk1 hI))) ?_;(repeat' first|exact True.intro|refine Lv.mk ?_ ?_|(refine oK ?_;intro K hK)|intro hq);all_goals refine Lf.mk ?_)|refine callZ cl73 (within_f _ _ _) ?_)
          (apply callB' [2008] cl72 (pos_reopen s bk am); (case h1 | h2 | h3 => (simp only [go_sem, ↓reduceIte]; try rfl)); (case hl | hs | hfp | hfr => (simp [go_sem]; done)))
          (try ((try (revert K;refine bK ?_));refine' run (I e1 (I e5 (I hk1 hI))) ?_;(repeat' first|exact True.intro|refine Lv.mk ?_ ?_|(refine oK ?_;intro K hK)|intro hq);all_goals refine Lf.mk ?_))
          refine ⟨⟨i + 1, hi⟩, id, ?_, by show l.length - (i + 1) < l.length - i; omega⟩
          simp only [hs]
          simp only [go_sem, ↓reduceIte, hF]
      · have hI : inR kd 1 5 = false := by rw [Bool.eq_false_iff, ne_eq, inR_iff]; exact hk
        have hs2 : stOne s ⟨bk, kd, am⟩ = s := by
          unfold stOne
          simp only
          rw [if_neg (by omega), if_neg (by omega), if_neg (by omega), if_neg (by omega), if_neg (by omega)]
        rw [hs2] at hs
        (repeat' first|((try (revert K;refine bK ?_));refine' run (I e1 (I e5 (I hk1 hI))) ?_;(repeat' first|exact True.intro|refine Lv.mk ?_ ?_|(refine oK ?_;intro K hK)|intro hq);all_goals refine Lf.mk ?_)|refine callZ cl73 (within_f _ _ _) ?_)
        refine ⟨⟨i + 1, hi⟩, id, ?_, by show l.length - (i + 1) < l.length - i; omega⟩
        simp only [hs]
        simp only [go_sem, ↓reduceIte, hF]
    · obtain rfl : i = l.length := by omega
      simp only [List.take_length]
      (try ((try (revert K;refine bK ?_));refine' run trivial ?_;(repeat' first|exact True.intro|refine Lv.mk ?_ ?_|(refine oK ?_;intro K hK)|intro hq);all_goals refine Lf.mk ?_))
end Go.Proofs.YtjplhfmakghabaaGreat.V
set_option linter.unusedSimpArgs false
set_option linter.unusedVariables false
namespace Go.Proofs.YtjplhfmakghabaaGreat.V
open Go.RowKit
set_option maxRecDepth 100000
attribute [local go_sem] Option.toList_some Option.toList_none

theorem standF_f (f : File) (hl : f.acts.length ≤ 100000) : Fun Tryz.prog 27 [.agg f.flat] (.agg (standP f.acts).flat) := by
  refine fun_W mixed Tryz.func27 rfl (Nat.le_of_ble_eq_true rfl) (by kernel_rfl) fun cx hN hR hF hL => ?_; apply args_k; (case hA => (simp only [go_sem, ↓reduceIte]; rfl))
  (repeat' first|((try (revert K;refine bK ?_));refine' run trivial ?_;(repeat' first|exact True.intro|refine Lv.mk ?_ ?_|(refine oK ?_;intro K hK)|intro hq);all_goals refine Lf.mk ?_)|refine callZ cl45 (stand_f f hl) ?_)
  exact ⟨rfl, rfl, rfl, rfl, rfl, rfl⟩
theorem act_len (a : Act) : a.flat.length = 3 := rfl
theorem act_data (a : Act) : a.flat.all AV.isData = true := by simp [Act.flat]
theorem clone_f (l : List Act) (hl : l.length ≤ 100000) : Fun Tryz.prog 32 [actsA l] (actsA l) := by
  refine fun_W mixed Tryz.func32 rfl (Nat.le_of_ble_eq_true rfl) (by kernel_rfl) fun cx hN hR hF hL => ?_; apply args_k; (case hA => (simp only [go_sem, ↓reduceIte]; rfl))
  (try ((try (revert K;refine bK ?_));refine' run trivial ?_;(repeat' first|exact True.intro|refine Lv.mk ?_ ?_|(refine oK ?_;intro K hK)|intro hq);all_goals refine Lf.mk ?_))
  · exact ⟨rows_len act_len l, fzo_rows act_len act_data l rfl⟩
  · simp [maxLen]; omega
@[go_sem] theorem rowA_ren (r : Nat → Nat) (l : List Act) : ((l.map Act.flat).flatten).map (AV.ren r) = (l.map Act.flat).flatten := rows_ren (fun x r => by simp [Act.flat]) r l
@[go_sem] theorem rowA_nms (p : Nat → Bool) (l : List Act) : ((l.map Act.flat).flatten).all (AV.names p) = true := rows_nms (fun x p => by simp [Act.flat]) p l
theorem cloneB_f (l : List Act) (hl : l.length ≤ 100000) : FunB Tryz.prog 32 [] [actsA l] (.osl 0 3 0 l.length) [(0, some ⟨38, (l.map Act.flat).flatten⟩)] := by
  refine funB_C 0 Tryz.func32 rfl (Nat.le_of_ble_eq_true rfl) (by simp [go_sem]) fun cx hN hR hF hL => ?_; apply code_argsB; (case hA => (simp only [go_sem, ↓reduceIte]; rfl)); (case hB => (simp only [go_sem, ↓reduceIte]; rfl))
  (refine code_seq mixed (by rw [hN]; kernel_rfl) ?_)
  (try ((try (revert K;refine bK ?_));refine' run trivial ?_;(repeat' first|exact True.intro|refine Lv.mk ?_ ?_|(refine oK ?_;intro K hK)|intro hq);all_goals refine Lf.mk ?_))
  refine code_seq2 ?_
  (refine code_seq mixed (by rw [hN]; kernel_rfl) ?_)
  (try ((try (revert K;refine bK ?_));refine' run trivial ?_;(repeat' first|exact True.intro|refine Lv.mk ?_ ?_|(refine oK ?_;intro K hK)|intro hq);all_goals refine Lf.mk ?_))
  refine code_bit rfl (fun hq => ?_) ?_
  · obtain rfl : l = [] := by simpa using hq
    (refine code_seq mixed (by rw [hN]; kernel_rfl) ?_)
    (try ((try (revert K;refine bK ?_));refine' run trivial ?_;(repeat' first|exact True.intro|refine Lv.mk ?_ ?_|(refine oK ?_;intro K hK)|intro hq);all_goals refine Lf.mk ?_))
    refine code_nil 2 3000 3 38 rfl (Nat.le_of_ble_eq_true rfl) ?_
    refine code_cut (nm1 0 3000) ⟨[(2, .osl 0 3 0 0)], [(0, some ⟨38, []⟩)], 1⟩ ?_ (code_w mixed (by rw [hN]; kernel_rfl) ?_)
    · simp only [go_sem, ↓reduceIte, hF]
      exact fun b g h => absurd (hF b g h) (by simp [inl])
    · (try ((try (revert K;refine bK ?_));refine' run trivial ?_;(repeat' first|exact True.intro|refine Lv.mk ?_ ?_|(refine oK ?_;intro K hK)|intro hq);all_goals refine Lf.mk ?_))
      all_goals (try rfl)
  · refine code_w mixed (by rw [hN]; kernel_rfl) ?_
    (try ((try (revert K;refine bK ?_));refine' run trivial ?_;(repeat' first|exact True.intro|refine Lv.mk ?_ ?_|(refine oK ?_;intro K hK)|intro hq);all_goals refine Lf.mk ?_))
    (refine code_seq mixed (by rw [hN]; kernel_rfl) ?_)
    (try ((try (revert K;refine bK ?_));refine' run trivial ?_;(repeat' first|exact True.intro|refine Lv.mk ?_ ?_|(refine oK ?_;intro K hK)|intro hq);all_goals refine Lf.mk ?_))
    · refine code_cut (nm1 0 2016) ⟨[(2, .osl 0 3 0 l.length)], [(0, some ⟨38, (l.map Act.flat).flatten⟩)], 1⟩ ?_ (code_w mixed (by rw [hN]; kernel_rfl) ?_)
      · simp only [go_sem, ↓reduceIte, hF]
        exact fun b g h => absurd (hF b g h) (by simp [inl])
      · (try ((try (revert K;refine bK ?_));refine' run trivial ?_;(repeat' first|exact True.intro|refine Lv.mk ?_ ?_|(refine oK ?_;intro K hK)|intro hq);all_goals refine Lf.mk ?_))
    · simp [maxLen]; omega
theorem fzo_snoc {t : TypeId} {R : AV → AV → Prop} (l : List Act) (c : Act) {n : Nat} (hn : n = l.length + 1) : fzo (some ⟨t, (l.map Act.flat).flatten ++ c.flat⟩) R 3 0 n ((l ++ [c]).map Act.flat) := by
  have h := fzo_rows (t := t) (R := R) act_len act_data (l ++ [c]) (n := n) (by simp [hn])
  simpa using h
def zeroF : File := ⟨⟨0, 0, 0, 0, 0, 0⟩, []⟩
def putF (f : File) (a : Act) : File := if putE f a = 0 then ⟨f.claim, f.acts ++ [a]⟩ else zeroF
theorem put_1 {f : File} {a : Act} {e : Int} (h : putE f a = e) (he : e ≠ 0) : putF f a = zeroF := by unfold putF; rw [if_neg (by rw [h]; exact he)]
theorem put_0 {f : File} {a : Act} (h : putE f a = 0) : putF f a = ⟨f.claim, f.acts ++ [a]⟩ := by unfold putF; rw [if_pos h]
set_option maxHeartbeats 4000000 in
theorem put_f (f : File) (a : Act) (hl : f.acts.length ≤ 50000) : Fun Tryz.prog 94 [.agg f.flat, .agg a.flat] (.tup [.agg (putF f a).flat, int (putE f a)]) := by
  have hl2 : f.acts.length ≤ 100000 := by omega
  have hlc : (f.acts.map Act.flat).flatten.length = f.acts.length * 3 := rows_count act_len _
  refine fun_W mixed Tryz.func94 rfl (Nat.le_of_ble_eq_true rfl) (by kernel_rfl) fun cx hN hR hF hL => ?_; apply args_k; (case hA => (simp only [go_sem, ↓reduceIte]; rfl))
  (repeat' first|((try (revert K;refine bK ?_));refine' run trivial ?_;(repeat' first|exact True.intro|refine Lv.mk ?_ ?_|(refine oK ?_;intro K hK)|intro hq);all_goals refine Lf.mk ?_)|refine callZ cl45 (stand_f f hl2) ?_|refine callZ cl99 (actRight_f a) ?_|refine callZ cl100 (last_f f hl2) ?_)
  · have e : putE f a = 1 := by
      unfold putE
      (repeat' split) <;> first | rfl | omega | (simp_all [overA]; done) | (simp_all [overA]; omega)
    rw [put_1 e (by omega), e]
    simp [zeroF]
  · have e : putE f a = 2 := by
      unfold putE
      (repeat' split) <;> first | rfl | omega | (simp_all [overA]; done) | (simp_all [overA]; omega)
    rw [put_1 e (by omega), e]
    simp [zeroF]
  · have e : putE f a = 4 := by
      unfold putE
      (repeat' split) <;> first | rfl | omega | (simp_all [overA]; done) | (simp_all [overA]; omega)
    rw [put_1 e (by omega), e]
    simp [zeroF]
  · have e : putE f a = 10 := by
      unfold putE
      (repeat' split) <;> first | rfl | omega | (simp_all [overA]; done) | (simp_all [overA]; omega)
    rw [put_1 e (by omega), e]
    simp [zeroF]
  · have e : putE f a = 5 := by
      unfold putE
      (repeat' split) <;> first | rfl | omega | (simp_all [overA]; done) | (simp_all [overA]; omega)
    rw [put_1 e (by omega), e]
    simp [zeroF]
  · have e : putE f a = 5 := by
      unfold putE
      (repeat' split) <;> first | rfl | omega | (simp_all [overA]; done) | (simp_all [overA]; omega)
    rw [put_1 e (by omega), e]
    simp [zeroF]
  (apply callB' [8016] cl32 (cloneB_f f.acts hl2); (case h1 | h2 | h3 => (simp only [go_sem, ↓reduceIte]; try rfl)); (case hl | hs | hfp | hfr => (simp [go_sem]; done)))
  have e : putE f a = 0 := by
    unfold putE
    (repeat' split) <;> first | rfl | omega | (simp_all [overA]; done) | (simp_all [overA]; omega)
  (try ((try (revert K;refine bK ?_));refine' run hlc ?_;(repeat' first|exact True.intro|refine Lv.mk ?_ ?_|(refine oK ?_;intro K hK)|intro hq);all_goals refine Lf.mk ?_))
  · rw [put_0 e, e]
    exact ⟨⟨rfl, rfl, rfl, rfl, rfl, rfl, ⟨by simp, rows_len act_len _⟩, fzo_snoc f.acts a rfl⟩, rfl⟩
  · simp [maxLen]; omega
end Go.Proofs.YtjplhfmakghabaaGreat.V
namespace Go.Proofs.YtjplhfmakghabaaGreat.V
open Go.RowKit
set_option maxRecDepth 100000
attribute [local go_sem] Option.toList_some Option.toList_none

theorem made_next {c : Claim} {l : List Act} {i : Nat} {a : Act} (h : l[i]? = some a) (hm : madeL c [] (l.take i) = true) : madeL c [] (l.take (i + 1)) = decide (putE ⟨c, l.take i⟩ a = 0) := by
  rw [List.take_add_one, h, madeL_app, hm]
  simp [madeL]
theorem made_not {c : Claim} {l : List Act} {i : Nat} (h : madeL c [] (l.take i) = false) : madeL c [] l = false := by
  conv => lhs; rw [← List.take_append_drop i l]
  rw [madeL_app, h]
  rfl
set_option maxHeartbeats 4000000 in
theorem made_f (f : File) : Fun Tryz.prog 86 [.agg f.flat] (bool f.made) := by
  obtain ⟨c, l⟩ := f
  refine fun_W mixed Tryz.func86 rfl (Nat.le_of_ble_eq_true rfl) (by kernel_rfl) fun cx hN hR hF hL => ?_; apply args_k; (case hA => (simp only [go_sem, ↓reduceIte]; rfl))
  have hl : l.length ≤ 9223372036854775807 := by
    simp [maxLen, File.flat] at hL
    omega
  (repeat' first|((try (revert K;refine bK ?_));refine' run trivial ?_;(repeat' first|exact True.intro|refine Lv.mk ?_ ?_|(refine oK ?_;intro K hK)|intro hq);all_goals refine Lf.mk ?_)|refine callZ cl93 (open_f c) ?_)
  refine loopW mixed (σ := {s : Nat × Int × File // s.1 ≤ l.length ∧ ((s.2.1 = 0 ∧ s.2.2 = ⟨c, l.take s.1⟩ ∧ madeL c [] (l.take s.1) = true) ∨ (s.2.1 ≠ 0 ∧ madeL c [] l = false))}) (fun s => ⟨[(5, int s.1.1), (4, int s.1.2.1), (3, .ptr 1024 0), (1, .ptr 0 0)], [(1024, some ⟨41, s.1.2.2.flat⟩), (0, some ⟨41, (⟨c, l⟩ : File).flat⟩)], 4000⟩) (fun s => l.length - s.1.1) id ⟨(0, 0, ⟨c, []⟩), Nat.zero_le _, .inl ⟨rfl, rfl, rfl⟩⟩ (by rw [hN]; kernel_rfl) ?_ ?_
  · simp only [go_sem, ↓reduceIte, hF]
    exact ⟨rfl, rfl⟩
  · rintro ⟨⟨i, e, g⟩, h1, h2⟩
    simp only at h1 h2
    by_cases hi : i < l.length
    · rcases h2 with ⟨rfl, rfl, hm⟩ | ⟨he, hm⟩
      · have hq2 : l[i]? = some l[i] := List.getElem?_eq_getElem hi
        have e1 : (l.map Act.flat)[i]? = some l[i].flat := by rw [List.getElem?_map, hq2]; rfl
        have e5 : IntKind.i64.wrap ((i : Int) + 1) = ((i + 1 : Nat) : Int) := by rw [wrap_id] <;> omega
        have hk1 : i < (l.map Act.flat).length := by simpa using hi
        have hn := made_next hq2 hm
        generalize l[i] = a at *
        have hgl := (made_good (f := ⟨c, l.take i⟩) hm).len
        have hp := put_f ⟨c, l.take i⟩ a (by simp only at hgl ⊢; omega)
        (repeat' first|((try (revert K;refine bK ?_));refine' run (I e1 (I e5 hk1)) ?_;(repeat' first|exact True.intro|refine Lv.mk ?_ ?_|(refine oK ?_;intro K hK)|intro hq);all_goals refine Lf.mk ?_)|refine callZ cl94 (hp) ?_)
        by_cases h0 : putE ⟨c, l.take i⟩ a = 0
        · have hn2 : madeL c [] (l.take (i + 1)) = true := by rw [hn, h0]; rfl
          have hg : l.take (i + 1) = l.take i ++ [a] := by rw [List.take_add_one, hq2]; rfl
          refine ⟨⟨(i + 1, 0, ⟨c, l.take (i + 1)⟩), by omega, .inl ⟨rfl, rfl, hn2⟩⟩, id, ?_, by show l.length - (i + 1) < l.length - i; omega⟩
          rw [put_0 h0, h0]
          simp only [hg]
          simp only [go_sem, ↓reduceIte, hF]
        · have hn2 : madeL c [] (l.take (i + 1)) = false := by rw [hn]; exact decide_eq_false h0
          refine ⟨⟨(i + 1, putE ⟨c, l.take i⟩ a, putF ⟨c, l.take i⟩ a), by omega, .inr ⟨h0, made_not hn2⟩⟩, id, ?_, by show l.length - (i + 1) < l.length - i; omega⟩
          simp only [go_sem, ↓reduceIte, hF]
      · (try ((try (revert K;refine bK ?_));refine' run he ?_;(repeat' first|exact True.intro|refine Lv.mk ?_ ?_|(refine oK ?_;intro K hK)|intro hq);all_goals refine Lf.mk ?_))
        exact hm.symm
    · obtain rfl : i = l.length := by omega
      (try ((try (revert K;refine bK ?_));refine' run trivial ?_;(repeat' first|exact True.intro|refine Lv.mk ?_ ?_|(refine oK ?_;intro K hK)|intro hq);all_goals refine Lf.mk ?_))
      rcases h2 with ⟨rfl, rfl, hm⟩ | ⟨he, hm⟩
      · rw [List.take_length] at hm
        exact hm.symm
      · rw [decide_eq_false he]
        exact hm.symm
end Go.Proofs.YtjplhfmakghabaaGreat.V
