/- Contracts of chapter 4: step's Set at any data. -/
import Derived.Test.YtffiompkjhopkaaP24
set_option linter.unusedSimpArgs false
set_option linter.unusedVariables false
namespace Go.Proofs.Ytffiompkjhopkaa.V
open Go.RowKit
set_option maxRecDepth 100000
attribute [local go_sem] Option.toList_some Option.toList_none

/-- What Set makes of any step. -/
def setA (a v : List Int) (s t w : Int) : List Int := if rightS a v = true then (if (fullS s t && money w) = true then (setL (a.zip v) s t w).map Prod.fst else a) else []
def setV (a v : List Int) (s t w : Int) : List Int := if rightS a v = true then (if (fullS s t && money w) = true then (setL (a.zip v) s t w).map Prod.snd else v) else []

theorem set_f (a v : List Int) (s t w : Int) (hl : a.length ≤ 900) : Fun Try.prog 27 [.agg [ints a, ints v], .agg [int s, int t], int w] (.agg [ints (setA a v s t w), ints (setV a v s t w)]) := by
  unfold setA setV
  by_cases hr : rightS a v = true
  · rw [if_pos hr, if_pos hr]
    by_cases hf : (fullS s t && money w) = true
    · rw [if_pos hf, if_pos hf]; exact setY_f a v s t w hr hl hf
    · rw [if_neg hf, if_neg hf]; exact setN_f a v s t w hr hl (by simpa using hf)
  · rw [if_neg hr, if_neg hr]; exact setE_f a v s t w (by simpa using hr)

end Go.Proofs.Ytffiompkjhopkaa.V
