/- Pieces of code: rules at CodeW. -/
import Derived.Test.YtjplhfmakghabaaV21
set_option linter.unusedSimpArgs false
set_option linter.unusedVariables false
namespace Go.Proofs.Ytjplhfmakghabaa.V
open Go.RowKit
variable {P : Program} {cx : Cx} {ι : Nat → Option Nat} {box : Nat → Option Bx} {used : Nat → Prop}

theorem code_seq2 {a b : Code} {Q : Exit → LS → Prop} {A : LS} (h : CodeW P cx a (lthen (fun A => CodeW P cx b Q A) Q) A) : CodeW P cx (.seq a b) Q A := by
  refine awp_seq (AWp.mono h ?_)
  rintro e A' ⟨L, rfl, hL⟩
  cases e with
  | normal => exact hL
  | _ => exact ⟨L, rfl, hL⟩

theorem code_block {id : Nat} {a : Code} {Q : Exit → LS → Prop} {A : LS} (h : CodeW P cx a (linBlock id Q) A) : CodeW P cx (.block id a) Q A := by
  refine awp_block (AWp.mono h ?_)
  rintro e A' ⟨L, rfl, hL⟩
  cases e with
  | exit id' =>
    simp only [ainBlock]
    by_cases hh : id' = id
    · rw [if_pos hh]; simp only [linBlock, hh] at hL; exact ⟨L, rfl, by simpa using hL⟩
    · rw [if_neg hh]; exact ⟨L, rfl, by simpa [linBlock, hh] using hL⟩
  | _ => exact ⟨L, rfl, hL⟩

theorem code_cut {c : Code} {Q : Exit → LS → Prop} {A : LS} (r : Nat → Nat) (A' : LS) (h : LCut cx r A A') (hw : CodeW P cx c Q A') : CodeW P cx c Q A := awp_cut h.cut hw

theorem funB_C {f : FuncId} {fn : Func} {c : Code} {fp : List (Nat × Bx)} {args : List AV} {x : AV} {tb : List (Nat × Option Bx)} (n : Nat) (hf : P.funcs[f]? = some fn) (hb : fn.body = some c) (hn : args.length ≤ fn.ntmps)
    (hfp : (fp.all (fun p => !p.2.cs.isEmpty) && okF fp && fp.all (fun p => decide (p.1 < n))) = true)
    (h : ∀ cx : Cx, cx.N = fn.ntmps → cx.R = none → (∀ b g, cx.F b = some g → inl fp b = true) → (args.all AV.lens = true ∧ ∀ b x, bget (lives fp) b = some x → x.cs.all AV.lens = true) → CodeW P cx c (LEndsB P fn.results fp x tb) ⟨argsL args 0, lives fp, n⟩) : FunB P f fp args x tb := by
  simp only [Bool.and_eq_true] at hfp
  refine funB_of hf hb hn hfp.1.1 hfp.1.2 n hfp.2 fun cx hN hR hF hL => ?_
  have := h cx hN hR hF hL
  have he : (⟨argsEnv args, bget (lives fp), fun b => b < n⟩ : AS) = LS.toAS ⟨argsL args 0, lives fp, n⟩ := by
    unfold LS.toAS mkAS
    congr 1
    · funext t
      rw [eget_argsL]
      simp [argsEnv]
    · funext b
      simp
  rw [he]
  refine AWp.mono this ?_
  rintro e A ⟨L, rfl, hL⟩
  cases e with
  | normal => exact LEndsB_sound hL
  | ret => exact LEndsB_sound hL
  | _ => exact hL.elim

theorem code_argsB {c : Code} {Q : Exit → LS → Prop} {args : List AV} {env : Env} {fp : List (Nat × Bx)} {box : Boxes} {n : Nat} (hA : argsL args 0 = env) (hB : lives fp = box) (h : CodeW P cx c Q ⟨env, box, n⟩) : CodeW P cx c Q ⟨argsL args 0, lives fp, n⟩ := by subst hA hB; exact h
theorem code_args {c : Code} {Q : Exit → LS → Prop} {args : List AV} {env : Env} {box : Boxes} {n : Nat} (hA : argsL args 0 = env) (h : CodeW P cx c Q ⟨env, box, n⟩) : CodeW P cx c Q ⟨argsL args 0, box, n⟩ := by subst hA; exact h

/-- A piece of code, behind which S is known. -/
theorem code_seqS {a b : Code} {Q : Exit → LS → Prop} {A : LS} (hm : P.follows .mixedOrders = true) (hok : bodyOK cx.N a = true) (S : LS → Prop) (h : W P cx a (lthen S Q) A) (h2 : ∀ A', S A' → CodeW P cx b Q A') : CodeW P cx (.seq a b) Q A := by
  refine awp_seq ((W_sound hm a _ A hok h).mono ?_)
  rintro e A' ⟨L, rfl, hL⟩
  cases e with
  | normal => exact h2 L hL
  | _ => exact ⟨L, rfl, hL⟩

theorem code_bit {y : Operand} {a b : Code} {p : Prop} {env : Env} {box : Boxes} {n : Nat} {Q : Exit → LS → Prop} (hy : oeval env y = .bit p) (h1 : p → CodeW P cx a Q ⟨env, box, n⟩) (h2 : CodeW P cx b Q ⟨env, box, n⟩) : CodeW P cx (.cond y a b) Q ⟨env, box, n⟩ := by
  intro ι ac w hs
  have hv := hs.eval y
  rw [mkAS_eval, hy] at hv
  obtain ⟨b, hb, hp⟩ := hv.bit'
  exact wpIn_cond_split hb (fun e => h1 (hp e) ι ac w hs) (fun _ => h2 ι ac w hs)

/-- A nil slice may be taken for an empty slice of the call's own, of a new name. -/
theorem code_nil {c : Code} {Q : Exit → LS → Prop} {A : LS} (tm b k : Nat) (ty : TypeId) (h0 : eget A.env tm = .v (.slice none 0 0)) (hb : A.next ≤ b) (h : CodeW P cx c Q ⟨(tm, .osl b k 0 0) :: A.env, (b, some ⟨ty, []⟩) :: A.box, b + 1⟩) : CodeW P cx c Q A :=
  fun ι a w hs => h ι a w (sat_nil tm b k ty h0 hb hs)

/-- From here on the boxes ns are plain data. -/
theorem code_freeze {c : Code} {Q : Exit → LS → Prop} {env : Env} {box pb : Boxes} {n : Nat} (ns : List Nat) (env' : Env) (box' : Boxes) (hp : pickB box ns = pb) (he : fzE pb env env') (hb : fzB ns pb box box') (h : CodeW P cx c Q ⟨env', box', n⟩) : CodeW P cx c Q ⟨env, box, n⟩ :=
  fun ι a w hs => h ι a w (sat_frz ns hp he hb hs)
end Go.Proofs.Ytjplhfmakghabaa.V
