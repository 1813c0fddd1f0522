/-
  rat's functions, walked (V): rounding.
-/
import Derived.Test.YtoodekggpbbogaaGreatRatD
namespace Go.Proofs.YtoodekggpbbogaaGreat
open Go.RowKit
set_option linter.unusedVariables false
set_option linter.unusedSimpArgs false

set_option maxRecDepth 100000 in
theorem IsN.slice {k : IntKind} {B n : Nat} {w : World} {v : Value} (h : IsN k B w v n) : ∃ ad l cap, v = .slice ad l cap := by
  obtain ⟨xs, ⟨ad, cap, rfl, -⟩, -⟩ := h
  exact ⟨ad, _, cap, rfl⟩
set_option maxRecDepth 100000 in
theorem szQ_neg (x : Rat) : szQ (-x) = szQ x := by
  unfold szQ
  rw [Rat.neg_num, Rat.neg_den, szZ_neg]
set_option maxRecDepth 100000 in
theorem szQ_int (z : Int) : szQ (z : Rat) ≤ max (szZ z) 1 := by
  unfold szQ
  rw [Rat.num_intCast, Rat.den_intCast]
  exact Nat.le_refl _

end Go.Proofs.YtoodekggpbbogaaGreat
