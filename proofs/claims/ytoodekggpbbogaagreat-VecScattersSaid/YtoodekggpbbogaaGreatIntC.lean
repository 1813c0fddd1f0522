/-
  zint: differences; quotients, rounded down, by what is above 0.
-/
import Derived.Test.YtoodekggpbbogaaGreatIntB
namespace Go.Proofs.YtoodekggpbbogaaGreat
open Go.RowKit
set_option linter.unusedVariables false
set_option linter.unusedSimpArgs false

set_option maxRecDepth 100000 in
theorem Own.chgS {e : TypeId} {B : Nat} {w w' : World} {ad : Option Addr} {cap : Nat} {xs : List Value} {bs : List Nat} (h : Own e B w ad cap xs) (he : ChgS bs w w') (hb : ∀ g ∈ bs, g < B) : Own e B w' ad cap xs := by
  rcases h with h | ⟨g, cur, h1, h2, h3, h4⟩
  · exact .inl h
  · exact .inr ⟨g, cur, h1, h2, he.blk h3 (fun hm => by have := hb g hm; omega), h4⟩
set_option maxRecDepth 100000 in
theorem FrL.chgS {e : TypeId} {k : IntKind} {B0 : Nat} {w w' : World} {v : Value} {xs : List Nat} {bs : List Nat} (h : FrL e k B0 w v xs) (he : ChgS bs w w') (hb : ∀ g ∈ bs, g < B0) : FrL e k B0 w' v xs := by
  obtain ⟨ad, cap, h1, h2, h3, h4⟩ := h
  exact ⟨ad, cap, h1, h2, h3, h4.chgS he hb⟩
set_option maxRecDepth 100000 in
theorem FrN.chgS {e : TypeId} {k : IntKind} {B B0 : Nat} {w w' : World} {v : Value} {n : Nat} {bs : List Nat} (h : FrN e k B B0 w v n) (he : ChgS bs w w') (hb : ∀ g ∈ bs, g < B0) : FrN e k B B0 w' v n := FrL.chgS h he hb
set_option maxRecDepth 100000 in
theorem FrZ.chgS {B0 : Nat} {w w' : World} {v : Value} {z : Int} {bs : List Nat} (h : FrZ B0 w v z) (he : ChgS bs w w') (hb : ∀ g ∈ bs, g < B0) : FrZ B0 w' v z := by
  obtain ⟨s, h1, h2⟩ := h
  exact ⟨s, h1, h2.chgS he hb⟩

set_option maxRecDepth 100000 in
theorem szZ_add (x y : Int) : szZ (x + y) ≤ max (szZ x) (szZ y) + 1 := by
  unfold szZ
  exact Nat.le_trans (sz_mono (Int.natAbs_add_le x y)) (sz_add _ _)
set_option maxRecDepth 100000 in
theorem szZ_mul (x y : Int) : szZ (x * y) ≤ szZ x + szZ y := by
  unfold szZ
  rw [Int.natAbs_mul]
  exact sz_mul _ _
set_option maxRecDepth 100000 in
theorem szZ_neg (x : Int) : szZ (-x) = szZ x := by unfold szZ; rw [Int.natAbs_neg]

set_option maxRecDepth 100000 in
theorem floor_fix (x : Int) (y : Nat) (hy : 0 < y) : x / (y : Int) = if x < 0 ∧ 0 < x.natAbs % y then sgn (decide (x < 0)) (x.natAbs / y) - 1 else sgn (decide (x < 0)) (x.natAbs / y) := by
  have h1 := Nat.div_add_mod x.natAbs y
  have h2 := Nat.mod_lt x.natAbs hy
  by_cases hx : x < 0
  · have e : x = -((y : Int) * ((x.natAbs / y : Nat) : Int) + ((x.natAbs % y : Nat) : Int)) := by
      rw [← Int.natCast_mul, ← Int.natCast_add, h1]; omega
    generalize x.natAbs / y = q at *
    generalize x.natAbs % y = r at *
    simp only [hx, decide_true, sgn, if_true, true_and]
    split
    · refine ((Int.ediv_emod_unique (r := (y : Int) - r) (by omega)).2 ⟨?_, by omega, by omega⟩).1
      rw [e, Int.mul_sub, Int.mul_neg]
      omega
    · refine ((Int.ediv_emod_unique (r := 0) (by omega)).2 ⟨?_, by omega, by omega⟩).1
      rw [e, Int.mul_neg]
      omega
  · rw [if_neg (by omega), decide_eq_false hx]
    simp only [sgn, if_false, Bool.false_eq_true]
    rw [Int.natCast_ediv]
    congr 1
    omega

end Go.Proofs.YtoodekggpbbogaaGreat
