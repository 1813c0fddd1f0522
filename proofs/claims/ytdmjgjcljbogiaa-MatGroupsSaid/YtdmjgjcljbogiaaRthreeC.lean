/-
 The document's fractions, walked (III): sums, products, quotients, comparison, rounding.
-/
import Derived.Test.YtdmjgjcljbogiaaRthreeB
namespace Go.Proofs.Ytdmjgjcljbogiaa
set_option maxRecDepth 100000
set_option maxHeartbeats 1000000
open Go.RowKit
set_option linter.unusedVariables false
set_option linter.unusedSimpArgs false
end Go.Proofs.Ytdmjgjcljbogiaa
