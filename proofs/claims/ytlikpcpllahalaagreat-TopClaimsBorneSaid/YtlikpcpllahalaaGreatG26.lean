/- Parts of the proof. -/
import Derived.Test.YtlikpcpllahalaaGreatG25
set_option maxHeartbeats 16000000
set_option linter.unusedSimpArgs false
set_option linter.unusedVariables false
namespace Go.Proofs.YtlikpcpllahalaaGreat.V
open Go.RowKit
set_option maxRecDepth 100000
attribute [local go_sem] Option.toList_some Option.toList_none
end Go.Proofs.YtlikpcpllahalaaGreat.V
