/-
  The document's whole numbers, walked (III): quotients, rounded down, by what is above 0.
-/
import Derived.Test.YtoodekggpbbogaaGreatRtwoB
namespace Go.Proofs.YtoodekggpbbogaaGreat
open Go.RowKit
set_option linter.unusedVariables false
set_option linter.unusedSimpArgs false

set_option maxRecDepth 100000 in
set_option maxHeartbeats 1000000 in
/-- Two structs handed back. -/
theorem ret_two {P : Program} {fn : Func} {R : Ending → World → Prop} {a : Act} {w : World} (p q : Tmp) (ty ty2 : TypeId) (g g2 : Nat) (t t2 : TypeId) (cs cs2 : Array Value) (d d2 : TypeDesc) (h : fn.results = #[.cell p ty, .cell q ty2]) (hp : a.tmps.getD p undef = .pointer (some ⟨g, 0, none⟩)) (hq : a.tmps.getD q undef = .pointer (some ⟨g2, 0, none⟩)) (hg : Bx t w g cs) (hg2 : Bx t2 w g2 cs2)
    (hu : P.underlying ty = some d) (hd : (match d with | .struct _ | .array _ _ => true | _ => false) = true) (hi : (P.info? ty).map (·.size) = some cs.size)
    (hu2 : P.underlying ty2 = some d2) (hd2 : (match d2 with | .struct _ | .array _ _ => true | _ => false) = true) (hi2 : (P.info? ty2).map (·.size) = some cs2.size) (hdf : a.defers = []) (hR : R (.returned (.tuple #[.agg cs, .agg cs2])) w) : bodyPost P fn R .ret a w := by
  refine bodyPost_ret (v := .tuple #[.agg cs, .agg cs2]) ?_ hdf hR
  have hp' : a.tmps[p]?.getD undef = .pointer (some ⟨g, 0, none⟩) := by simpa using hp
  have hq' : a.tmps[q]?.getD undef = .pointer (some ⟨g2, 0, none⟩) := by simpa using hq
  simp [results, h, hp', hq', asAddr, run_loadVar_row w g t ty cs _ d hg hu hd hi, run_loadVar_row w g2 t2 ty2 cs2 _ d2 hg2 hu2 hd2 hi2]
set_option maxRecDepth 100000 in
set_option maxHeartbeats 1000000 in
theorem alloc5 (w : World) (A B C D F : Array Value) (ta tb tc td tf : TypeId) : ∃ w1, w1 = ((((w.alloc (.cells A ta)).alloc (.cells B tb)).alloc (.cells C tc)).alloc (.cells D td)).alloc (.cells F tf) ∧ Ext w w1 ∧ Bx ta w1 w.heap.size A ∧ Bx tb w1 (w.heap.size + 1) B ∧ Bx tc w1 (w.heap.size + 2) C ∧ Bx td w1 (w.heap.size + 3) D ∧ Bx tf w1 (w.heap.size + 4) F ∧ w1.heap.size = w.heap.size + 5 := by
  obtain ⟨w1, h1, e1, b1, b2, b3, b4, s1⟩ := alloc4 w A B C D ta tb tc td
  rw [← h1]
  obtain ⟨w2, h2, e2, b5, s2⟩ := alloc1 w1 F tf
  rw [s1] at b5 s2
  exact ⟨w2, h2, e1.trans e2, b1.ext e2, b2.ext e2, b3.ext e2, b4.ext e2, b5, s2⟩

end Go.Proofs.YtoodekggpbbogaaGreat
