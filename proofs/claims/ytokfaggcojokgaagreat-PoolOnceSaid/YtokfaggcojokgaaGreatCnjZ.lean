/-
 Constraints: the document's sums of constraints (cutwaterref11.Combine).
-/
import Derived.Test.YtokfaggcojokgaaGreatCniZ
namespace Go.Proofs.YtokfaggcojokgaaGreat
set_option maxRecDepth 100000
set_option maxHeartbeats 1000000
open Go.RowKit
set_option linter.unusedVariables false
set_option linter.unusedSimpArgs false
end Go.Proofs.YtokfaggcojokgaaGreat
