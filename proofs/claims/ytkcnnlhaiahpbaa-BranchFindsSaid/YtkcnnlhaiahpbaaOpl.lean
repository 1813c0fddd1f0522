/-
  Lists handed in to a law: of fractions, of bools.
-/
import Derived.Test.YtkcnnlhaiahpbaaComT
namespace Go.Proofs.Ytkcnnlhaiahpbaa
open Go.RowKit
open Go.ChangeShapes Go.WideShapes Go.ChangeAt
set_option linter.unusedVariables false
set_option linter.unusedSimpArgs false

set_option maxRecDepth 100000 in
set_option maxHeartbeats 1000000 in
theorem cellsQs : Try.prog.cellsOf 28 = 3 := by kernel_rfl
section
variable {H : Type} {enc : TypeId × Value → H} {w : World} {base : Nat} {spare : Nat → Bool} {held : Bool}
set_option maxRecDepth 100000 in
set_option maxHeartbeats 1000000 in
theorem open_ratsS {v : Value} {d : DataW H} {p : List MemPlace} {W0 : World} {b0 : Nat} (hv : Value.okWide Try.prog W0 .any b0 61 v) (h : DataW.Trod enc Try.prog w base spare held 61 v d p) (B : Nat) (hb : B ≤ 4611686018427387903) (hB : ∀ n ∈ d.weights Try.prog 61, n ≤ B) :
    ∃ l, SLQ w v l ∧ l.length * Try.prog.bytesOf 28 ≤ B := by
  obtain ⟨a, n, c, rfl⟩ := okWide_slice Try.underlying61 hv
  obtain ⟨fuel, hf⟩ := h
  obtain ⟨v', ys, h1, h2, h3, -⟩ := open_structs (R := RawE) (F := fun _ _ => True) B Try.underlying61 cellsQs (by omega) (fun fuel cs x hl hw hx => by
    obtain ⟨b, s, t, xs, ys, rfl, hL, hd, hL2, hd2, hB2, -⟩ := open_ratC hx
    have hh := hB2 B hw
    exact ⟨(b, xs, ys), ⟨⟨s, t, rfl, hL, hL2⟩, hd, hd2, by show xs.length + ys.length ≤ _; omega⟩, trivial⟩) hB hf
  have hcs : (Value.slice a n c).cells.toList = [Value.slice a n c] := rfl
  rw [hcs] at h1
  cases h1
  exact ⟨ys, h2, h3⟩
set_option maxRecDepth 100000 in
set_option maxHeartbeats 1000000 in
theorem open_boolsS {v : Value} {d : DataW H} {p : List MemPlace} {W0 : World} {b0 : Nat} (hv : Value.okWide Try.prog W0 .any b0 81 v) (h : DataW.Trod enc Try.prog w base spare held 81 v d p) (B : Nat) (hB : ∀ n ∈ d.weights Try.prog 81, n ≤ B) :
    ∃ l, SV (fun _ v b => v = .bool b) w v l := by
  obtain ⟨a, n, c, rfl⟩ := okWide_slice Try.underlying81 hv
  obtain ⟨fuel, hf⟩ := h
  obtain ⟨v', ys, h1, h2, h3, -⟩ := open_ones (R := fun _ v b => v = .bool b) (F := fun _ _ => True) B Try.underlying81 cellsB (fun fuel v x hw hx => by
    obtain ⟨b, hb⟩ := open_bool1 hx
    cases hb
    exact ⟨b, rfl, trivial⟩) hB hf
  have hcs : (Value.slice a n c).cells.toList = [Value.slice a n c] := rfl
  rw [hcs] at h1
  cases h1
  exact ⟨ys, h2⟩
end
end Go.Proofs.Ytkcnnlhaiahpbaa
