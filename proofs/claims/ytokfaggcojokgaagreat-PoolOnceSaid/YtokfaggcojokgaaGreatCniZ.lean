/-
 Constraints: what the document says of whole numbers (cutwaterref11.Round).
-/
import Derived.Test.YtokfaggcojokgaaGreatCnhZ
namespace Go.Proofs.YtokfaggcojokgaaGreat
set_option maxRecDepth 100000
set_option maxHeartbeats 1000000
open Go.RowKit
set_option linter.unusedVariables false
set_option linter.unusedSimpArgs false
end Go.Proofs.YtokfaggcojokgaaGreat
