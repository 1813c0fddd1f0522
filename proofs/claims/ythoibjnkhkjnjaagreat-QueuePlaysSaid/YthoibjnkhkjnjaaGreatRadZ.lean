/-
 rat's functions, walked (IV): quotients, whole numbers, rounding.
-/
import Derived.Test.YthoibjnkhkjnjaaGreatRacZ
import Derived.Test.YthoibjnkhkjnjaaGreatRaaZ
namespace Go.Proofs.YthoibjnkhkjnjaaGreat
set_option maxRecDepth 100000
set_option maxHeartbeats 1000000
open Go.RowKit
set_option linter.unusedVariables false
set_option linter.unusedSimpArgs false
end Go.Proofs.YthoibjnkhkjnjaaGreat
