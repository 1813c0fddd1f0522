/-
 The law ModelConstraints.
-/
import Derived.Test.YtbmnlaepfckmkaaGreatMdmZ
import Derived.Test.YtbmnlaepfckmkaaGreatCnhZ
namespace Go.Proofs.YtbmnlaepfckmkaaGreat
set_option maxRecDepth 100000
set_option maxHeartbeats 1000000
open Go.RowKit
set_option linter.unusedVariables false
set_option linter.unusedSimpArgs false
theorem ltV_lenR{p:PbE}(h:okPb p):∀r∈(ratPb p).1,r.2.length≤30:=by
 intro r hr;obtain⟨e,he,rfl⟩:=List.mem_map.1 hr
 show(ratT e.2.2.2).length≤30
 unfold ratT;rw[List.length_map];exact(h.2.2.1 e he).2.2.1
theorem ratPb_len{p:PbE}:(ratPb p).1.length=p.2.1.length∧(ratPb p).2.length=p.2.2.length:=⟨List.length_map ..,List.length_map ..⟩
theorem bl_own{B n:Nat}{w:World}{v:Value}{bs:List Bool}(h:w.ownsRow B 4 1 v n (bs.map Value.bool))(hn:n=bs.length):BL w v bs:=
 OV.sv (t:=4) (B:=B) ⟨bs.map Value.bool,by rw[List.length_map,←hn];exact h,by simp,fun i u y hu hy=>by
  rw[List.getElem?_map,hy]at hu
  cases hu
  rfl⟩
end Go.Proofs.YtbmnlaepfckmkaaGreat
