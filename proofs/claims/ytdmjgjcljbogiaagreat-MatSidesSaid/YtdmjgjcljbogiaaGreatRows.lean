/-
  No cell of these rows narrows 'for every input' (looked for: loops, veiled, ifaces, maps, wideKeys, modest, calm, conditions, laid).
  DERIVED. THE GIVEN ROWS OF THIS SEAT. 5 by the template 'for every input the law returns true; each argument reads behind the call as it read before'; 0 by the template 'total and deterministic' (their statements: YtdmjgjcljbogiaaGreatTotals.lean).
  GIVEN WITH THE SEED: the statements are not yours to turn. If you find one false, say at which input.
  Laid BY PROGRAM, IN A SANDBOX (cutbox-rows.mjs): the forced cells as the released guide's own fill.sh prints them over the translation 724fe4182b6091e5… (all of the seat's roots in one cut). By AI agents, Wed Nov 11 2026. No macro, syntax, notation, axiom, sorry.
-/
import Derived.Test.YtdmjgjcljbogiaaGreatChecked
import GoSem.Claim
import GoSem.ClaimJoined
import GoSem.ClaimMapViews
import Derived.JoinedTies
import Derived.KernelRfl
namespace Go.Proofs.YtdmjgjcljbogiaaGreat
/- THE CELL 'sum', in the pinned program and in every row, IS THE sha256 OF THE DUMP (.gsa) THAT YtdmjgjcljbogiaaGreatProg.lean LOADS. Nothing in Lean hashes anything: it is a label: what it is worth is what the hold of that sum in a sandbox is worth. -/
noncomputable def Tryz.pinned : Pinned := { name := "ytdmjgjcljbogiaagreat", sum := "724fe4182b6091e5e2737c21812b55c56732a166c70a692514b22ced9c0456c7", checked := Tryz.checked }
namespace Rows
def none {H : Type} : Left H := { results := [], args := [] }

/-- 'cutwaterlaw06.MatTurns': WHATEVER THE INPUT: true; the input reads as it did. -/
def matTurnsSpec : ChangeSpec := { name := "matTurns", fn := fun _ => fun
  | [d1, d2] => { results := [.lit (.bool true)], args := [d1, d2] }
  | _ => none }
def matTurnsRow : OpenClaim := { program := "ytdmjgjcljbogiaagreat", sum := "724fe4182b6091e5e2737c21812b55c56732a166c70a692514b22ced9c0456c7", func := "cutwater/cutwaterlaw06.MatTurns", spec := "matTurns", inPlace := ["math/bits.Add64", "math/bits.Sub64"], unfollowed := true, recurses := true, named := ["math/bits.divideError", "math/bits.overflowError"], apart := false }
def MatTurnsSaid : Prop := matTurnsRow.holds Tryz.pinned (OpenSpec.ofChange matTurnsSpec)

/-- ITS FALSE NEIGHBOUR: 'it returns false'. Refute it at one input. -/
def matTurnsWrong : ChangeSpec := { name := "matTurns", fn := fun _ => fun
  | [d1, d2] => { results := [.lit (.bool false)], args := [d1, d2] }
  | _ => none }
def MatTurnsWrongFalsely : Prop := matTurnsRow.holds Tryz.pinned (OpenSpec.ofChange matTurnsWrong)

/-- 'cutwaterlaw06.MatTimes': WHATEVER THE INPUT: true; the input reads as it did. -/
def matTimesSpec : ChangeSpec := { name := "matTimes", fn := fun _ => fun
  | [d1, d2, d3] => { results := [.lit (.bool true)], args := [d1, d2, d3] }
  | _ => none }
def matTimesRow : OpenClaim := { program := "ytdmjgjcljbogiaagreat", sum := "724fe4182b6091e5e2737c21812b55c56732a166c70a692514b22ced9c0456c7", func := "cutwater/cutwaterlaw06.MatTimes", spec := "matTimes", inPlace := ["math/bits.Add64", "math/bits.Sub64"], unfollowed := true, recurses := true, named := ["math/bits.divideError", "math/bits.overflowError"], apart := false }
def MatTimesSaid : Prop := matTimesRow.holds Tryz.pinned (OpenSpec.ofChange matTimesSpec)

/-- ITS FALSE NEIGHBOUR: 'it returns false'. Refute it at one input. -/
def matTimesWrong : ChangeSpec := { name := "matTimes", fn := fun _ => fun
  | [d1, d2, d3] => { results := [.lit (.bool false)], args := [d1, d2, d3] }
  | _ => none }
def MatTimesWrongFalsely : Prop := matTimesRow.holds Tryz.pinned (OpenSpec.ofChange matTimesWrong)

/-- 'cutwaterlaw06.MatProducts': WHATEVER THE INPUT: true; the input reads as it did. -/
def matProductsSpec : ChangeSpec := { name := "matProducts", fn := fun _ => fun
  | [d1, d2] => { results := [.lit (.bool true)], args := [d1, d2] }
  | _ => none }
def matProductsRow : OpenClaim := { program := "ytdmjgjcljbogiaagreat", sum := "724fe4182b6091e5e2737c21812b55c56732a166c70a692514b22ced9c0456c7", func := "cutwater/cutwaterlaw06.MatProducts", spec := "matProducts", inPlace := ["math/bits.Add64", "math/bits.Sub64"], unfollowed := true, recurses := true, named := ["math/bits.divideError", "math/bits.overflowError"], apart := false }
def MatProductsSaid : Prop := matProductsRow.holds Tryz.pinned (OpenSpec.ofChange matProductsSpec)

/-- ITS FALSE NEIGHBOUR: 'it returns false'. Refute it at one input. -/
def matProductsWrong : ChangeSpec := { name := "matProducts", fn := fun _ => fun
  | [d1, d2] => { results := [.lit (.bool false)], args := [d1, d2] }
  | _ => none }
def MatProductsWrongFalsely : Prop := matProductsRow.holds Tryz.pinned (OpenSpec.ofChange matProductsWrong)

/-- 'cutwaterlaw06.MatSides': WHATEVER THE INPUT: true; the input reads as it did. -/
def matSidesSpec : ChangeSpec := { name := "matSides", fn := fun _ => fun
  | [d1, d2, d3] => { results := [.lit (.bool true)], args := [d1, d2, d3] }
  | _ => none }
def matSidesRow : OpenClaim := { program := "ytdmjgjcljbogiaagreat", sum := "724fe4182b6091e5e2737c21812b55c56732a166c70a692514b22ced9c0456c7", func := "cutwater/cutwaterlaw06.MatSides", spec := "matSides", inPlace := ["math/bits.Add64", "math/bits.Sub64"], unfollowed := true, recurses := true, named := ["math/bits.divideError", "math/bits.overflowError"], apart := false }
def MatSidesSaid : Prop := matSidesRow.holds Tryz.pinned (OpenSpec.ofChange matSidesSpec)

/-- ITS FALSE NEIGHBOUR: 'it returns false'. Refute it at one input. -/
def matSidesWrong : ChangeSpec := { name := "matSides", fn := fun _ => fun
  | [d1, d2, d3] => { results := [.lit (.bool false)], args := [d1, d2, d3] }
  | _ => none }
def MatSidesWrongFalsely : Prop := matSidesRow.holds Tryz.pinned (OpenSpec.ofChange matSidesWrong)

/-- 'cutwaterlaw06.MatOrders': WHATEVER THE INPUT: true; the input reads as it did. -/
def matOrdersSpec : ChangeSpec := { name := "matOrders", fn := fun _ => fun
  | [d1, d2] => { results := [.lit (.bool true)], args := [d1, d2] }
  | _ => none }
def matOrdersRow : OpenClaim := { program := "ytdmjgjcljbogiaagreat", sum := "724fe4182b6091e5e2737c21812b55c56732a166c70a692514b22ced9c0456c7", func := "cutwater/cutwaterlaw06.MatOrders", spec := "matOrders", inPlace := ["math/bits.Add64", "math/bits.Sub64"], unfollowed := true, recurses := true, named := ["math/bits.divideError", "math/bits.overflowError"], apart := false }
def MatOrdersSaid : Prop := matOrdersRow.holds Tryz.pinned (OpenSpec.ofChange matOrdersSpec)

/-- ITS FALSE NEIGHBOUR: 'it returns false'. Refute it at one input. -/
def matOrdersWrong : ChangeSpec := { name := "matOrders", fn := fun _ => fun
  | [d1, d2] => { results := [.lit (.bool false)], args := [d1, d2] }
  | _ => none }
def MatOrdersWrongFalsely : Prop := matOrdersRow.holds Tryz.pinned (OpenSpec.ofChange matOrdersWrong)

/- THE SECOND FORM. 'bulk': how many values and letters a reading holds, each counted each time it is reached (what is shared counts as often as it is met; a slice's spare places count too). A statement '..UptoSaid' is the law's where the arguments, and the package variables that the reading takes, are together of bulk at most 1048576: NARROWER than '..Said'. Prove '..Said' where nothing that the law and all that it calls make is longer than what came in: it says more and counts as full. Else prove '..UptoSaid'. A law counts once. -/
mutual
def uptoBulk {H : Type} : DataW H → Nat
  | .lit (.string bytes) => bytes.length + 1
  | .lit _ => 1
  | .nil => 1
  | .ptr d => uptoBulk d + 1
  | .slice elems spare => uptoBulkAll elems + uptoBulkAll spare + 1
  | .agg parts => uptoBulkAll parts + 1
  | .iface _ d => uptoBulk d + 1
  | .map entries => uptoBulkEntries entries + 1
  | .held _ => 1
def uptoBulkAll {H : Type} : List (DataW H) → Nat
  | [] => 0
  | d :: r => uptoBulk d + uptoBulkAll r
def uptoBulkEntries {H : Type} : List (Lit × DataW H) → Nat
  | [] => 0
  | x :: r => uptoBulkEntry x + uptoBulkEntries r
def uptoBulkEntry {H : Type} : Lit × DataW H → Nat
  | (.string bytes, d) => bytes.length + uptoBulk d + 1
  | (_, d) => uptoBulk d + 1
 end
def uptoSmall : (H : Type) → List (DataW H) → Bool := fun _ ds => decide (uptoBulkAll ds ≤ 1048576)
def OpenSpec.upto (s : _root_.Go.ChangeSpec) : _root_.Go.OpenSpec := { _root_.Go.OpenSpec.ofChange s with cond := some uptoSmall }

/-- 'cutwaterlaw06.MatTurns', WHERE WHAT IT READS IS OF BULK AT MOST 1048576: true; the input reads as it did. -/
def matTurnsUptoRow : OpenClaim := { program := "ytdmjgjcljbogiaagreat", sum := "724fe4182b6091e5e2737c21812b55c56732a166c70a692514b22ced9c0456c7", func := "cutwater/cutwaterlaw06.MatTurns", spec := "matTurns", inPlace := ["math/bits.Add64", "math/bits.Sub64"], unfollowed := true, recurses := true, named := ["math/bits.divideError", "math/bits.overflowError"], apart := false, narrowed := true }
def MatTurnsUptoSaid : Prop := matTurnsUptoRow.holds Tryz.pinned (OpenSpec.upto matTurnsSpec)

/-- 'cutwaterlaw06.MatTimes', WHERE WHAT IT READS IS OF BULK AT MOST 1048576: true; the input reads as it did. -/
def matTimesUptoRow : OpenClaim := { program := "ytdmjgjcljbogiaagreat", sum := "724fe4182b6091e5e2737c21812b55c56732a166c70a692514b22ced9c0456c7", func := "cutwater/cutwaterlaw06.MatTimes", spec := "matTimes", inPlace := ["math/bits.Add64", "math/bits.Sub64"], unfollowed := true, recurses := true, named := ["math/bits.divideError", "math/bits.overflowError"], apart := false, narrowed := true }
def MatTimesUptoSaid : Prop := matTimesUptoRow.holds Tryz.pinned (OpenSpec.upto matTimesSpec)

/-- 'cutwaterlaw06.MatProducts', WHERE WHAT IT READS IS OF BULK AT MOST 1048576: true; the input reads as it did. -/
def matProductsUptoRow : OpenClaim := { program := "ytdmjgjcljbogiaagreat", sum := "724fe4182b6091e5e2737c21812b55c56732a166c70a692514b22ced9c0456c7", func := "cutwater/cutwaterlaw06.MatProducts", spec := "matProducts", inPlace := ["math/bits.Add64", "math/bits.Sub64"], unfollowed := true, recurses := true, named := ["math/bits.divideError", "math/bits.overflowError"], apart := false, narrowed := true }
def MatProductsUptoSaid : Prop := matProductsUptoRow.holds Tryz.pinned (OpenSpec.upto matProductsSpec)

/-- 'cutwaterlaw06.MatSides', WHERE WHAT IT READS IS OF BULK AT MOST 1048576: true; the input reads as it did. -/
def matSidesUptoRow : OpenClaim := { program := "ytdmjgjcljbogiaagreat", sum := "724fe4182b6091e5e2737c21812b55c56732a166c70a692514b22ced9c0456c7", func := "cutwater/cutwaterlaw06.MatSides", spec := "matSides", inPlace := ["math/bits.Add64", "math/bits.Sub64"], unfollowed := true, recurses := true, named := ["math/bits.divideError", "math/bits.overflowError"], apart := false, narrowed := true }
def MatSidesUptoSaid : Prop := matSidesUptoRow.holds Tryz.pinned (OpenSpec.upto matSidesSpec)

/-- 'cutwaterlaw06.MatOrders', WHERE WHAT IT READS IS OF BULK AT MOST 1048576: true; the input reads as it did. -/
def matOrdersUptoRow : OpenClaim := { program := "ytdmjgjcljbogiaagreat", sum := "724fe4182b6091e5e2737c21812b55c56732a166c70a692514b22ced9c0456c7", func := "cutwater/cutwaterlaw06.MatOrders", spec := "matOrders", inPlace := ["math/bits.Add64", "math/bits.Sub64"], unfollowed := true, recurses := true, named := ["math/bits.divideError", "math/bits.overflowError"], apart := false, narrowed := true }
def MatOrdersUptoSaid : Prop := matOrdersUptoRow.holds Tryz.pinned (OpenSpec.upto matOrdersSpec)

end Rows
end Go.Proofs.YtdmjgjcljbogiaaGreat
