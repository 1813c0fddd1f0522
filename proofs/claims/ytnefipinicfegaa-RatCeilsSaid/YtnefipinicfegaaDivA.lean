/-
  Division of two words by a word: what the code's guesses come to. Plain: no program is named here.
-/
import Derived.Test.YtnefipinicfegaaBase
namespace Go.Proofs.Ytnefipinicfegaa
open Go.RowKit
set_option linter.unusedVariables false
set_option linter.unusedSimpArgs false

/-- q is not below the quotient of u and d by the two places v1 and v0. -/
def QInv (B u v1 v0 d q r : Nat) : Prop := q * v1 + r = u ∧ u * B + d < (q + 1) * (v1 * B + v0) ∧ q ≤ B + 1

theorem QInv.start {B u v1 v0 d : Nat} (hd : d < B) (hv : v1 ≠ 0) (hB : B ≤ 2 * v1) (hB1 : 1 < B) (h0 : v0 < B) (hu : u < v1 * B + v0) : QInv B u v1 v0 d (u / v1) (u % v1) := by
  have e := Nat.div_add_mod u v1
  rw [Nat.mul_comm] at e
  have hm := Nat.mod_lt u (Nat.pos_of_ne_zero hv)
  generalize u / v1 = q at *
  generalize u % v1 = r at *
  refine ⟨e, ?_, ?_⟩
  · have h1 : u + 1 ≤ (q + 1) * v1 := by rw [Nat.add_mul]; omega
    have h2 := Nat.mul_le_mul_right B h1
    rw [Nat.add_mul] at h2
    rw [Nat.mul_add, ← Nat.mul_assoc]
    omega
  · have h1 : q * v1 < v1 * B + B := by omega
    rcases Nat.lt_or_ge (B + 1) q with h | h
    · have h2 : (B + 2) * v1 ≤ q * v1 := Nat.mul_le_mul_right v1 h
      rw [Nat.add_mul, Nat.mul_comm B] at h2
      omega
    · exact h

theorem QInv.pos {B u v1 v0 d q r : Nat} (hB : 0 < B) (hc : B ≤ q ∨ B * r + d < q * v0) : 1 ≤ q := by
  rcases hc with h | h
  · omega
  · rcases Nat.eq_zero_or_pos q with h0 | h0
    · subst h0; simp at h
    · exact h0

theorem QInv.step {B u v1 v0 d q r : Nat} (h : QInv B u v1 v0 d q r) (hd : d < B) (hB : 0 < B) (hu : u < v1 * B + v0) (hc : B ≤ q ∨ B * r + d < q * v0) : QInv B u v1 v0 d (q - 1) (r + v1) := by
  have hq := QInv.pos (u := u) (v1 := v1) hB hc
  obtain ⟨h1, h2, h3⟩ := h
  obtain ⟨p, rfl⟩ : ∃ p, q = p + 1 := ⟨q - 1, by omega⟩
  refine ⟨by rw [Nat.add_mul] at h1; simp only [Nat.add_sub_cancel]; omega, ?_, by omega⟩
  simp only [Nat.add_sub_cancel]
  rcases hc with h | h
  · have e1 : B * (v1 * B + v0) ≤ (p + 1) * (v1 * B + v0) := Nat.mul_le_mul_right _ h
    have e2 : B * (u + 1) ≤ B * (v1 * B + v0) := Nat.mul_le_mul_left _ hu
    rw [Nat.mul_add, Nat.mul_comm B u] at e2
    omega
  · have e1 : u * B = (p + 1) * v1 * B + r * B := by rw [← h1, Nat.add_mul]
    rw [Nat.mul_add, ← Nat.mul_assoc, e1, Nat.mul_comm r]
    omega

theorem QInv.exit {B u v1 v0 d q r : Nat} (h : QInv B u v1 v0 d q r) (hc : q * v0 ≤ B * r + d) : q = (u * B + d) / (v1 * B + v0) := by
  obtain ⟨h1, h2, h3⟩ := h
  have e1 : u * B = q * v1 * B + r * B := by rw [← h1, Nat.add_mul]
  have h4 : q * (v1 * B + v0) ≤ u * B + d := by
    rw [Nat.mul_add, ← Nat.mul_assoc, e1, Nat.mul_comm r]; omega
  rcases Nat.eq_zero_or_pos (v1 * B + v0) with h0 | h0
  · rw [h0] at h2; simp at h2
  · refine (Nat.div_eq_of_lt_le ?_ ?_).symm
    · exact h4
    · exact h2

/-- Behind a step after which the rest is a place too great. -/
theorem QInv.brk {B u v1 v0 d q r : Nat} (h : QInv B u v1 v0 d q r) (hq : q ≤ B) (h0 : v0 < B) (hr : B ≤ r) : q = (u * B + d) / (v1 * B + v0) := by
  refine h.exit ?_
  have e1 : q * v0 ≤ B * v0 := Nat.mul_le_mul_right _ hq
  have e2 : B * v0 ≤ B * r := Nat.mul_le_mul_left _ (by omega)
  omega

theorem quo_lt {B u v d : Nat} (hd : d < B) (hu : u < v) : (u * B + d) / v < B := by
  refine Nat.div_lt_of_lt_mul ?_
  have e2 : B * (u + 1) ≤ B * v := Nat.mul_le_mul_left _ hu
  rw [Nat.mul_add, Nat.mul_comm B u, Nat.mul_comm B v] at e2
  omega

/-- The two places of a quotient, one behind the other. -/
theorem two_places {B v u d1 d0 : Nat} (hv : 0 < v) :
    (u * B + d1) / v * B + ((u * B + d1) % v * B + d0) / v = (u * B * B + d1 * B + d0) / v ∧ ((u * B + d1) % v * B + d0) % v = (u * B * B + d1 * B + d0) % v := by
  have e := Nat.div_add_mod (u * B + d1) v
  generalize (u * B + d1) / v = q at *
  generalize (u * B + d1) % v = r at *
  have e1 : u * B * B + d1 * B + d0 = v * (q * B) + (r * B + d0) := by
    rw [← Nat.add_mul, ← e, Nat.add_mul]
    have : v * q * B = v * (q * B) := Nat.mul_assoc ..
    omega
  rw [e1]
  refine ⟨?_, ?_⟩
  · rw [Nat.mul_add_div hv]
  · rw [Nat.mul_add_mod]
end Go.Proofs.Ytnefipinicfegaa
