/- More rules at CodeW: loops whose rounds go piece by piece; a cut in the midst of a row of pieces. -/
import Derived.Test.YtjplhfmakghabaaVA
set_option linter.unusedSimpArgs false
set_option linter.unusedVariables false
namespace Go.Proofs.Ytjplhfmakghabaa.V
open Go.RowKit
variable {P : Program} {cx : Cx}

theorem loopC {σ : Type} {c : Code} {Q : Exit → LS → Prop} {A : LS} (I : σ → LS) (μ : σ → Nat) (r : Nat → Nat) (s₀ : σ) (h₀ : LCut cx r A (I s₀))
    (round : ∀ s, CodeW P cx c (lthen (fun A' => ∃ (s' : σ) (r' : Nat → Nat), LCut cx r' A' (I s') ∧ μ s' < μ s) Q) (I s)) : LoopW P cx c Q A := by
  refine awp_loop (fun s => (I s).toAS) μ _ r s₀ h₀.cut fun s => ?_
  refine AWp.mono (round s) ?_
  rintro e A' ⟨L, rfl, hL⟩
  cases e with
  | normal =>
    obtain ⟨s', r', h1, h2⟩ := hL
    exact ⟨s', _, r', h1.cut, h2⟩
  | _ => exact ⟨L, rfl, hL⟩

/-- The last of the pieces ahead of the cut. -/
theorem codeT_base (hm : P.follows .mixedOrders = true) {a b : Code} {Q : Exit → LS → Prop} (hok : bodyOK cx.N a = true) (S : LS → Prop) (h2 : ∀ A', S A' → CodeW P cx b Q A') : ∀ A, W P cx a (lthen S Q) A → CodeW P cx (.seq a b) Q A :=
  fun _ h => code_seqS hm hok S h h2
/-- A piece ahead of it. -/
theorem codeT_step (hm : P.follows .mixedOrders = true) {a X Y : Code} {Q : Exit → LS → Prop} {S : LS → Prop} (hok : bodyOK cx.N a = true) (h : ∀ A, W P cx X (lthen S Q) A → CodeW P cx Y Q A) : ∀ A, W P cx (.seq a X) (lthen S Q) A → CodeW P cx (.seq a Y) Q A := by
  intro A hw
  refine awp_seq (AWp.mono (W_sound hm a _ A hok hw) ?_)
  rintro e A' ⟨L, rfl, hL⟩
  cases e with
  | normal => exact h L hL
  | _ => exact ⟨L, rfl, hL⟩
theorem code_cut5 (hm : P.follows .mixedOrders = true) {a b c d e r : Code} {Q : Exit → LS → Prop} {A : LS} (S : LS → Prop) (h1 : bodyOK cx.N a = true) (h2 : bodyOK cx.N b = true) (h3 : bodyOK cx.N c = true) (h4 : bodyOK cx.N d = true) (h5 : bodyOK cx.N e = true)
    (hr : ∀ A', S A' → CodeW P cx r Q A') (h : W P cx (.seq a (.seq b (.seq c (.seq d e)))) (lthen S Q) A) : CodeW P cx (.seq a (.seq b (.seq c (.seq d (.seq e r))))) Q A :=
  codeT_step hm h1 (codeT_step hm h2 (codeT_step hm h3 (codeT_step hm h4 (codeT_base hm h5 S hr)))) A h
end Go.Proofs.Ytjplhfmakghabaa.V
