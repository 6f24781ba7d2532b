/- Laws of chapter 19: what they share. -/
import Derived.Test.YtjplhfmakghabaaM2
import Derived.Test.YtjplhfmakghabaaN19
set_option linter.unusedSimpArgs false
set_option linter.unusedVariables false
namespace Go.Proofs.Ytjplhfmakghabaa.V

theorem few_len {l : List File} (hf : fewB l = true) : l.length ≤ 30 := by
  rw [fewB, Bool.and_eq_true, decide_eq_true_eq, decide_eq_true_eq] at hf
  exact hf.1
end Go.Proofs.Ytjplhfmakghabaa.V
