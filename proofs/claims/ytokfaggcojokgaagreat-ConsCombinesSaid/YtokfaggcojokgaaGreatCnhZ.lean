/-
 Constraints: the document's form, whether a sum is kept, whether numbers keep one, whether one is bare, false, whether two are alike, whether terms are whole (cutwaterref11).
-/
import Derived.Test.YtokfaggcojokgaaGreatCngZ
namespace Go.Proofs.YtokfaggcojokgaaGreat
set_option maxRecDepth 100000
set_option maxHeartbeats 1000000
open Go.RowKit
set_option linter.unusedVariables false
set_option linter.unusedSimpArgs false
theorem sense11_calls(s:Int)(w:World):
  Calls Tryz.prog 33 #[.int .i64 s] w fun e w'=>e= .returned (.bool (sens s))∧Ext w w':=by
 by_cases h1:0<s
 ·by_cases h2:s<4
  ·have HS:=Lib.hid (show sens s=true from sens_iff.2 ⟨by omega,by omega⟩)
   go_enter Tryz.func33,Tryz.ntmps33
   go_wp2;go_ret
   exact⟨by rw[HS.out]<;>rfl,Ext.refl _⟩
  ·have HS:=Lib.hid (sens_no (s:=s) fun h=>by omega)
   go_enter Tryz.func33,Tryz.ntmps33
   go_wp2;go_ret
   exact⟨by rw[HS.out]<;>rfl,Ext.refl _⟩
 ·have HS:=Lib.hid (sens_no (s:=s) fun h=>by omega)
  go_enter Tryz.func33,Tryz.ntmps33
  go_wp2;go_ret
  exact⟨by rw[HS.out]<;>rfl,Ext.refl _⟩
end Go.Proofs.YtokfaggcojokgaaGreat
