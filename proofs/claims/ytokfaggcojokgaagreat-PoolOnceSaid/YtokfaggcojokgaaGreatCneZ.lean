/-
 Constraints: what a constraint says of whole numbers (cons.Round).
-/
import Derived.Test.YtokfaggcojokgaaGreatCnaZ
namespace Go.Proofs.YtokfaggcojokgaaGreat
set_option maxRecDepth 100000
set_option maxHeartbeats 1000000
open Go.RowKit
set_option linter.unusedVariables false
set_option linter.unusedSimpArgs false
end Go.Proofs.YtokfaggcojokgaaGreat
