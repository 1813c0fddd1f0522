/-
 Constraints: the document's form, whether a sum is kept, whether numbers keep one, whether one is bare, false, whether two are alike, whether terms are whole (cutwaterref11).
-/
import Derived.Test.YtbmnlaepfckmkaaGreatCnaZ
import Derived.Test.YtbmnlaepfckmkaaGreatCmaZ
namespace Go.Proofs.YtbmnlaepfckmkaaGreat
set_option maxRecDepth 100000
set_option maxHeartbeats 1000000
open Go.RowKit
set_option linter.unusedVariables false
set_option linter.unusedSimpArgs false
theorem to_one{B k gT:Nat}{w:World}{tb:Bool}{ta1:Option Addr}{tn1 tc1:Nat}{ta2:Option Addr}{tn2 tc2:Nat}{q:Rat}(hB:B≤gT)(hb:Bx 95 w gT #[.int .i64 0,.bool tb,.slice ta1 tn1 tc1,.slice ta2 tn2 tc2])(hq:FrQ B w (.agg #[.bool tb,.slice ta1 tn1 tc1,.slice ta2 tn2 tc2]) q)(hs:szQ q≤k):TO B k w (.slice (some ⟨gT,0,none⟩) 1 1) [(0,q)]:=by
 have:=LS.of_hold (e:=95) (n:=4) (B:=B) (w:=w) (vs:=(tsP [((⟨0,tb,ta1,tn1,tc1,ta2,tn2,tc2⟩:TmC),q)]).map tmv) (g:=gT) (cap:=1) (rest:=[]) (strN_tmv _) hB (Nat.le_refl _) (by omega) rfl hb
 exact TO.of_ps this fun p hp=>by
  rw[List.mem_singleton]at hp;subst hp;exact⟨hq,hs⟩
open Go.ChangeShapes Go.WideShapes Go.ChangeAt
section
variable {H:Type} {enc:TypeId×Value→H} {w:World} {base:Nat} {spare:Nat→Bool} {held:Bool}
end
end Go.Proofs.YtbmnlaepfckmkaaGreat
