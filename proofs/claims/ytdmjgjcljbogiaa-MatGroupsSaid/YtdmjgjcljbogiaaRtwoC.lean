/-
 The document's whole numbers, walked (III): quotients, rounded down, by what is above 0.
-/
import Derived.Test.YtdmjgjcljbogiaaRtwoB
namespace Go.Proofs.Ytdmjgjcljbogiaa
set_option maxRecDepth 100000
set_option maxHeartbeats 1000000
open Go.RowKit
set_option linter.unusedVariables false
set_option linter.unusedSimpArgs false
end Go.Proofs.Ytdmjgjcljbogiaa
