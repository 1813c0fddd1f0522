/-
 rat's functions, walked (V): rounding.
-/
import Derived.Test.YtdmjgjcljbogiaaRatD
namespace Go.Proofs.Ytdmjgjcljbogiaa
set_option maxRecDepth 100000
set_option maxHeartbeats 1000000
open Go.RowKit
set_option linter.unusedVariables false
set_option linter.unusedSimpArgs false
theorem IsN.slice {k : IntKind} {B n : Nat} {w : World} {v : Value} (h : IsN k B w v n) : ∃ ad l cap, v = .slice ad l cap := by
 obtain ⟨xs, ⟨ad, cap, rfl, -⟩, -⟩ := h
 exact ⟨ad, _, cap, rfl⟩
end Go.Proofs.Ytdmjgjcljbogiaa
