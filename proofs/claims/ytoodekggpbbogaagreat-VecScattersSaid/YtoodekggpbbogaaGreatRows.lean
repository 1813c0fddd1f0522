/-
  No cell of these rows narrows 'for every input' (looked for: loops, veiled, ifaces, maps, wideKeys, modest, calm, conditions, laid).
  DERIVED. THE GIVEN ROWS OF THIS SEAT. 4 by the template 'for every input the law returns true; each argument reads behind the call as it read before'; 0 by the template 'total and deterministic' (their statements: YtoodekggpbbogaaGreatTotals.lean).
  GIVEN WITH THE SEED: the statements are not yours to turn. If you find one false, say at which input.
  Laid BY PROGRAM, IN A SANDBOX (cutbox-rows.mjs): the forced cells as the released guide's own fill.sh prints them over the translation a12317151f33cf41… (all of the seat's roots in one cut). By AI agents, Wed Nov 11 2026. No macro, syntax, notation, axiom, sorry.
-/
import Derived.Test.YtoodekggpbbogaaGreatChecked
import GoSem.Claim
import GoSem.ClaimJoined
import GoSem.ClaimMapViews
import Derived.JoinedTies
import Derived.KernelRfl
namespace Go.Proofs.YtoodekggpbbogaaGreat
/- THE CELL 'sum', in the pinned program and in every row, IS THE sha256 OF THE DUMP (.gsa) THAT YtoodekggpbbogaaGreatProg.lean LOADS. Nothing in Lean hashes anything: it is a label: what it is worth is what the hold of that sum in a sandbox is worth. -/
noncomputable def Tryz.pinned : Pinned := { name := "ytoodekggpbbogaagreat", sum := "a12317151f33cf41b2dc81bdf0ced8da9e8d638b8486e002e48f703ce1a0120c", checked := Tryz.checked }
namespace Rows
def none {H : Type} : Left H := { results := [], args := [] }

/-- 'cutwaterlaw05.VecForms': WHATEVER THE INPUT: true; the input reads as it did. -/
def vecFormsSpec : ChangeSpec := { name := "vecForms", fn := fun _ => fun
  | [d1, d2] => { results := [.lit (.bool true)], args := [d1, d2] }
  | _ => none }
def vecFormsRow : OpenClaim := { program := "ytoodekggpbbogaagreat", sum := "a12317151f33cf41b2dc81bdf0ced8da9e8d638b8486e002e48f703ce1a0120c", func := "cutwater/cutwaterlaw05.VecForms", spec := "vecForms", inPlace := ["math/bits.Add64", "math/bits.Sub64"], unfollowed := true, recurses := true, named := ["math/bits.divideError", "math/bits.overflowError"], apart := false }
def VecFormsSaid : Prop := vecFormsRow.holds Tryz.pinned (OpenSpec.ofChange vecFormsSpec)

/-- ITS FALSE NEIGHBOUR: 'it returns false'. Refute it at one input. -/
def vecFormsWrong : ChangeSpec := { name := "vecForms", fn := fun _ => fun
  | [d1, d2] => { results := [.lit (.bool false)], args := [d1, d2] }
  | _ => none }
def VecFormsWrongFalsely : Prop := vecFormsRow.holds Tryz.pinned (OpenSpec.ofChange vecFormsWrong)

/-- 'cutwaterlaw05.VecDots': WHATEVER THE INPUT: true; the input reads as it did. -/
def vecDotsSpec : ChangeSpec := { name := "vecDots", fn := fun _ => fun
  | [d1, d2] => { results := [.lit (.bool true)], args := [d1, d2] }
  | _ => none }
def vecDotsRow : OpenClaim := { program := "ytoodekggpbbogaagreat", sum := "a12317151f33cf41b2dc81bdf0ced8da9e8d638b8486e002e48f703ce1a0120c", func := "cutwater/cutwaterlaw05.VecDots", spec := "vecDots", inPlace := ["math/bits.Add64", "math/bits.Sub64"], unfollowed := true, recurses := true, named := ["math/bits.divideError", "math/bits.overflowError"], apart := false }
def VecDotsSaid : Prop := vecDotsRow.holds Tryz.pinned (OpenSpec.ofChange vecDotsSpec)

/-- ITS FALSE NEIGHBOUR: 'it returns false'. Refute it at one input. -/
def vecDotsWrong : ChangeSpec := { name := "vecDots", fn := fun _ => fun
  | [d1, d2] => { results := [.lit (.bool false)], args := [d1, d2] }
  | _ => none }
def VecDotsWrongFalsely : Prop := vecDotsRow.holds Tryz.pinned (OpenSpec.ofChange vecDotsWrong)

/-- 'cutwaterlaw05.VecSums': WHATEVER THE INPUT: true; the input reads as it did. -/
def vecSumsSpec : ChangeSpec := { name := "vecSums", fn := fun _ => fun
  | [d1, d2, d3] => { results := [.lit (.bool true)], args := [d1, d2, d3] }
  | _ => none }
def vecSumsRow : OpenClaim := { program := "ytoodekggpbbogaagreat", sum := "a12317151f33cf41b2dc81bdf0ced8da9e8d638b8486e002e48f703ce1a0120c", func := "cutwater/cutwaterlaw05.VecSums", spec := "vecSums", inPlace := ["math/bits.Add64", "math/bits.Sub64"], unfollowed := true, recurses := true, named := ["math/bits.divideError", "math/bits.overflowError"], apart := false }
def VecSumsSaid : Prop := vecSumsRow.holds Tryz.pinned (OpenSpec.ofChange vecSumsSpec)

/-- ITS FALSE NEIGHBOUR: 'it returns false'. Refute it at one input. -/
def vecSumsWrong : ChangeSpec := { name := "vecSums", fn := fun _ => fun
  | [d1, d2, d3] => { results := [.lit (.bool false)], args := [d1, d2, d3] }
  | _ => none }
def VecSumsWrongFalsely : Prop := vecSumsRow.holds Tryz.pinned (OpenSpec.ofChange vecSumsWrong)

/-- 'cutwaterlaw05.VecScatters': WHATEVER THE INPUT: true; the input reads as it did. -/
def vecScattersSpec : ChangeSpec := { name := "vecScatters", fn := fun _ => fun
  | [d1, d2] => { results := [.lit (.bool true)], args := [d1, d2] }
  | _ => none }
def vecScattersRow : OpenClaim := { program := "ytoodekggpbbogaagreat", sum := "a12317151f33cf41b2dc81bdf0ced8da9e8d638b8486e002e48f703ce1a0120c", func := "cutwater/cutwaterlaw05.VecScatters", spec := "vecScatters", inPlace := ["math/bits.Add64", "math/bits.Sub64"], unfollowed := true, recurses := true, named := ["math/bits.divideError", "math/bits.overflowError"], apart := false }
def VecScattersSaid : Prop := vecScattersRow.holds Tryz.pinned (OpenSpec.ofChange vecScattersSpec)

/-- ITS FALSE NEIGHBOUR: 'it returns false'. Refute it at one input. -/
def vecScattersWrong : ChangeSpec := { name := "vecScatters", fn := fun _ => fun
  | [d1, d2] => { results := [.lit (.bool false)], args := [d1, d2] }
  | _ => none }
def VecScattersWrongFalsely : Prop := vecScattersRow.holds Tryz.pinned (OpenSpec.ofChange vecScattersWrong)

/- THE SECOND FORM. 'bulk': how many values and letters a reading holds, each counted each time it is reached (what is shared counts as often as it is met; a slice's spare places count too). A statement '..UptoSaid' is the law's where the arguments, and the package variables that the reading takes, are together of bulk at most 1048576: NARROWER than '..Said'. Prove '..Said' where nothing that the law and all that it calls make is longer than what came in: it says more and counts as full. Else prove '..UptoSaid'. A law counts once. -/
mutual
def uptoBulk {H : Type} : DataW H → Nat
  | .lit (.string bytes) => bytes.length + 1
  | .lit _ => 1
  | .nil => 1
  | .ptr d => uptoBulk d + 1
  | .slice elems spare => uptoBulkAll elems + uptoBulkAll spare + 1
  | .agg parts => uptoBulkAll parts + 1
  | .iface _ d => uptoBulk d + 1
  | .map entries => uptoBulkEntries entries + 1
  | .held _ => 1
def uptoBulkAll {H : Type} : List (DataW H) → Nat
  | [] => 0
  | d :: r => uptoBulk d + uptoBulkAll r
def uptoBulkEntries {H : Type} : List (Lit × DataW H) → Nat
  | [] => 0
  | x :: r => uptoBulkEntry x + uptoBulkEntries r
def uptoBulkEntry {H : Type} : Lit × DataW H → Nat
  | (.string bytes, d) => bytes.length + uptoBulk d + 1
  | (_, d) => uptoBulk d + 1
 end
def uptoSmall : (H : Type) → List (DataW H) → Bool := fun _ ds => decide (uptoBulkAll ds ≤ 1048576)
def OpenSpec.upto (s : _root_.Go.ChangeSpec) : _root_.Go.OpenSpec := { _root_.Go.OpenSpec.ofChange s with cond := some uptoSmall }

/-- 'cutwaterlaw05.VecForms', WHERE WHAT IT READS IS OF BULK AT MOST 1048576: true; the input reads as it did. -/
def vecFormsUptoRow : OpenClaim := { program := "ytoodekggpbbogaagreat", sum := "a12317151f33cf41b2dc81bdf0ced8da9e8d638b8486e002e48f703ce1a0120c", func := "cutwater/cutwaterlaw05.VecForms", spec := "vecForms", inPlace := ["math/bits.Add64", "math/bits.Sub64"], unfollowed := true, recurses := true, named := ["math/bits.divideError", "math/bits.overflowError"], apart := false, narrowed := true }
def VecFormsUptoSaid : Prop := vecFormsUptoRow.holds Tryz.pinned (OpenSpec.upto vecFormsSpec)

/-- 'cutwaterlaw05.VecDots', WHERE WHAT IT READS IS OF BULK AT MOST 1048576: true; the input reads as it did. -/
def vecDotsUptoRow : OpenClaim := { program := "ytoodekggpbbogaagreat", sum := "a12317151f33cf41b2dc81bdf0ced8da9e8d638b8486e002e48f703ce1a0120c", func := "cutwater/cutwaterlaw05.VecDots", spec := "vecDots", inPlace := ["math/bits.Add64", "math/bits.Sub64"], unfollowed := true, recurses := true, named := ["math/bits.divideError", "math/bits.overflowError"], apart := false, narrowed := true }
def VecDotsUptoSaid : Prop := vecDotsUptoRow.holds Tryz.pinned (OpenSpec.upto vecDotsSpec)

/-- 'cutwaterlaw05.VecSums', WHERE WHAT IT READS IS OF BULK AT MOST 1048576: true; the input reads as it did. -/
def vecSumsUptoRow : OpenClaim := { program := "ytoodekggpbbogaagreat", sum := "a12317151f33cf41b2dc81bdf0ced8da9e8d638b8486e002e48f703ce1a0120c", func := "cutwater/cutwaterlaw05.VecSums", spec := "vecSums", inPlace := ["math/bits.Add64", "math/bits.Sub64"], unfollowed := true, recurses := true, named := ["math/bits.divideError", "math/bits.overflowError"], apart := false, narrowed := true }
def VecSumsUptoSaid : Prop := vecSumsUptoRow.holds Tryz.pinned (OpenSpec.upto vecSumsSpec)

/-- 'cutwaterlaw05.VecScatters', WHERE WHAT IT READS IS OF BULK AT MOST 1048576: true; the input reads as it did. -/
def vecScattersUptoRow : OpenClaim := { program := "ytoodekggpbbogaagreat", sum := "a12317151f33cf41b2dc81bdf0ced8da9e8d638b8486e002e48f703ce1a0120c", func := "cutwater/cutwaterlaw05.VecScatters", spec := "vecScatters", inPlace := ["math/bits.Add64", "math/bits.Sub64"], unfollowed := true, recurses := true, named := ["math/bits.divideError", "math/bits.overflowError"], apart := false, narrowed := true }
def VecScattersUptoSaid : Prop := vecScattersUptoRow.holds Tryz.pinned (OpenSpec.upto vecScattersSpec)

end Rows
end Go.Proofs.YtoodekggpbbogaaGreat
