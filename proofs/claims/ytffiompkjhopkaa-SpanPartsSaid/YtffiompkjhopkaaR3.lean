/- Arguments opened: rows of spans. -/
import Derived.Test.YtffiompkjhopkaaR1
import Derived.Test.YtffiompkjhopkaaS3
set_option linter.unusedSimpArgs false
set_option linter.unusedVariables false
namespace Go.Proofs.Ytffiompkjhopkaa.V
open Go.ChangeShapes Go.WideShapes Go.ChangeAt Go.RowKit Go.Deep

theorem reads_prs : Reads 42 1 (fun l : List (Int × Int) => [prs l]) (fun _ => True) :=
  (reads_slice Try.underlying42 (by kernel_rfl) (by decide) (fun p : Int × Int => by rfl) reads_span).weak fun _ _ => trivial
end Go.Proofs.Ytffiompkjhopkaa.V
