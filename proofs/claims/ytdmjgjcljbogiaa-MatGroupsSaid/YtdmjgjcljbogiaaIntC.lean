/-
 zint: differences; quotients, rounded down, by what is above 0.
-/
import Derived.Test.YtdmjgjcljbogiaaIntB
namespace Go.Proofs.Ytdmjgjcljbogiaa
set_option maxRecDepth 100000
set_option maxHeartbeats 1000000
open Go.RowKit
set_option linter.unusedVariables false
set_option linter.unusedSimpArgs false
theorem Own.chgS {e : TypeId} {B : Nat} {w w' : World} {ad : Option Addr} {cap : Nat} {xs : List Value} {bs : List Nat} (h : Own e B w ad cap xs) (he : ChgS bs w w') (hb : ∀ g ∈ bs, g < B) : Own e B w' ad cap xs := by
 rcases h with h | ⟨g, cur, h1, h2, h3, h4⟩
 ·exact .inl h
 ·exact .inr ⟨g, cur, h1, h2, he.blk h3 (fun hm => by have := hb g hm; omega), h4⟩
theorem FrL.chgS {e : TypeId} {k : IntKind} {B0 : Nat} {w w' : World} {v : Value} {xs : List Nat} {bs : List Nat} (h : FrL e k B0 w v xs) (he : ChgS bs w w') (hb : ∀ g ∈ bs, g < B0) : FrL e k B0 w' v xs := by
 obtain ⟨ad, cap, h1, h2, h3, h4⟩ := h
 exact ⟨ad, cap, h1, h2, h3, h4.chgS he hb⟩
theorem FrN.chgS {e : TypeId} {k : IntKind} {B B0 : Nat} {w w' : World} {v : Value} {n : Nat} {bs : List Nat} (h : FrN e k B B0 w v n) (he : ChgS bs w w') (hb : ∀ g ∈ bs, g < B0) : FrN e k B B0 w' v n := FrL.chgS h he hb
theorem FrZ.chgS {B0 : Nat} {w w' : World} {v : Value} {z : Int} {bs : List Nat} (h : FrZ B0 w v z) (he : ChgS bs w w') (hb : ∀ g ∈ bs, g < B0) : FrZ B0 w' v z := by
 obtain ⟨s, h1, h2⟩ := h
 exact ⟨s, h1, h2.chgS he hb⟩
theorem szZ_add (x y : Int) : szZ (x + y) ≤ max (szZ x) (szZ y) + 1 := by
 unfold szZ
 exact Nat.le_trans (sz_mono (Int.natAbs_add_le x y)) (sz_add _ _)
theorem szZ_mul (x y : Int) : szZ (x * y) ≤ szZ x + szZ y := by
 unfold szZ
 rw [Int.natAbs_mul]
 exact sz_mul _ _
end Go.Proofs.Ytdmjgjcljbogiaa
