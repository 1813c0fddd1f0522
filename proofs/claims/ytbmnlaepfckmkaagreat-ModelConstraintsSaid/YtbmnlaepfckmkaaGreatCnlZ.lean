/-
 The law ConsCombines.
-/
import Derived.Test.YtbmnlaepfckmkaaGreatCnhZ
import Derived.Test.YtbmnlaepfckmkaaGreatCmaZ
import Derived.Test.YtbmnlaepfckmkaaGreatComZ
import Derived.Deep.AppendSrc
import Derived.Test.YtbmnlaepfckmkaaGreatCnaZ
import Derived.Test.YtbmnlaepfckmkaaGreatVfcZ
namespace Go.Proofs.YtbmnlaepfckmkaaGreat
set_option maxRecDepth 100000
set_option maxHeartbeats 1000000
open Go.RowKit
set_option linter.unusedVariables false
set_option linter.unusedSimpArgs false
def BO(w:World)(u:Value)(bs:List Bool):Prop:=∃ad cap,u= .slice ad bs.length cap∧bs.length≤cap∧cap≤9223372036854775807∧(bs=[]∨∃g cs,ad=some ⟨g,0,none⟩∧Bx 4 w g cs∧∀(i:Nat) (b:Bool),bs[i]? =some b→cs[i]? =some (.bool b))
theorem BO.ext{w w':World}{u:Value}{bs:List Bool}(h:BO w u bs)(he:Ext w w'):BO w' u bs:=by
 obtain⟨ad,cap,h1,h2,h3,h4⟩:=h;refine⟨ad,cap,h1,h2,h3,?_⟩
 rcases h4 with h4 |⟨g,cs,h4,h5,h6⟩
 ·exact .inl h4
 ·exact .inr ⟨g,cs,h4,h5.ext he,h6⟩
end Go.Proofs.YtbmnlaepfckmkaaGreat
