/-
  No cell of these rows narrows 'for every input' (looked for: loops, veiled, ifaces, maps, wideKeys, modest, calm, conditions, laid).
  DERIVED. THE GIVEN ROWS OF THIS SEAT. 12 by the template 'for every input the law returns true; each argument reads behind the call as it read before'; 0 by the template 'total and deterministic' (their statements: YtbmnlaepfckmkaaGreatTotals.lean).
  GIVEN WITH THE SEED: the statements are not yours to turn. If you find one false, say at which input.
  Laid BY PROGRAM, IN A SANDBOX (cutbox-rows.mjs): the forced cells as the released guide's own fill.sh prints them over the translation 7a6c0dfb9f82d9f7… (all of the seat's roots in one cut). By AI agents, Wed Nov 11 2026. No macro, syntax, notation, axiom, sorry.
-/
import Derived.Test.YtbmnlaepfckmkaaGreatChecked
import GoSem.Claim
import GoSem.ClaimJoined
import GoSem.ClaimMapViews
import Derived.JoinedTies
import Derived.KernelRfl
namespace Go.Proofs.YtbmnlaepfckmkaaGreat
/- THE CELL 'sum', in the pinned program and in every row, IS THE sha256 OF THE DUMP (.gsa) THAT YtbmnlaepfckmkaaGreatProg.lean LOADS. Nothing in Lean hashes anything: it is a label: what it is worth is what the hold of that sum in a sandbox is worth. -/
noncomputable def Tryz.pinned : Pinned := { name := "ytbmnlaepfckmkaagreat", sum := "7a6c0dfb9f82d9f7fc6ce4c2a5a74aa3d699e5967b38ff44ed37b719c00286e0", checked := Tryz.checked }
namespace Rows
def none {H : Type} : Left H := { results := [], args := [] }

/-- 'cutwaterlaw10.ModelTells': WHATEVER THE INPUT: true; the input reads as it did. -/
def modelTellsSpec : ChangeSpec := { name := "modelTells", fn := fun _ => fun
  | [d] => { results := [.lit (.bool true)], args := [d] }
  | _ => none }
def modelTellsRow : OpenClaim := { program := "ytbmnlaepfckmkaagreat", sum := "7a6c0dfb9f82d9f7fc6ce4c2a5a74aa3d699e5967b38ff44ed37b719c00286e0", func := "cutwater/cutwaterlaw10.ModelTells", spec := "modelTells", inPlace := ["math/bits.Add64", "math/bits.Sub64"], unfollowed := true, recurses := true, named := ["math/bits.divideError", "math/bits.overflowError"], apart := false }
def ModelTellsSaid : Prop := modelTellsRow.holds Tryz.pinned (OpenSpec.ofChange modelTellsSpec)

/-- ITS FALSE NEIGHBOUR: 'it returns false'. Refute it at one input. -/
def modelTellsWrong : ChangeSpec := { name := "modelTells", fn := fun _ => fun
  | [d] => { results := [.lit (.bool false)], args := [d] }
  | _ => none }
def ModelTellsWrongFalsely : Prop := modelTellsRow.holds Tryz.pinned (OpenSpec.ofChange modelTellsWrong)

/-- 'cutwaterlaw10.ModelConstraints': WHATEVER THE INPUT: true; the input reads as it did. -/
def modelConstraintsSpec : ChangeSpec := { name := "modelConstraints", fn := fun _ => fun
  | [d1, d2] => { results := [.lit (.bool true)], args := [d1, d2] }
  | _ => none }
def modelConstraintsRow : OpenClaim := { program := "ytbmnlaepfckmkaagreat", sum := "7a6c0dfb9f82d9f7fc6ce4c2a5a74aa3d699e5967b38ff44ed37b719c00286e0", func := "cutwater/cutwaterlaw10.ModelConstraints", spec := "modelConstraints", inPlace := ["math/bits.Add64", "math/bits.Sub64"], unfollowed := true, recurses := true, named := ["math/bits.divideError", "math/bits.overflowError"], apart := false }
def ModelConstraintsSaid : Prop := modelConstraintsRow.holds Tryz.pinned (OpenSpec.ofChange modelConstraintsSpec)

/-- ITS FALSE NEIGHBOUR: 'it returns false'. Refute it at one input. -/
def modelConstraintsWrong : ChangeSpec := { name := "modelConstraints", fn := fun _ => fun
  | [d1, d2] => { results := [.lit (.bool false)], args := [d1, d2] }
  | _ => none }
def ModelConstraintsWrongFalsely : Prop := modelConstraintsRow.holds Tryz.pinned (OpenSpec.ofChange modelConstraintsWrong)

/-- 'cutwaterlaw10.ModelMean': WHATEVER THE INPUT: true; the input reads as it did. -/
def modelMeanSpec : ChangeSpec := { name := "modelMean", fn := fun _ => fun
  | [d1, d2, d3] => { results := [.lit (.bool true)], args := [d1, d2, d3] }
  | _ => none }
def modelMeanRow : OpenClaim := { program := "ytbmnlaepfckmkaagreat", sum := "7a6c0dfb9f82d9f7fc6ce4c2a5a74aa3d699e5967b38ff44ed37b719c00286e0", func := "cutwater/cutwaterlaw10.ModelMean", spec := "modelMean", inPlace := ["math/bits.Add64", "math/bits.Sub64"], unfollowed := true, recurses := true, named := ["math/bits.divideError", "math/bits.overflowError"], apart := false }
def ModelMeanSaid : Prop := modelMeanRow.holds Tryz.pinned (OpenSpec.ofChange modelMeanSpec)

/-- ITS FALSE NEIGHBOUR: 'it returns false'. Refute it at one input. -/
def modelMeanWrong : ChangeSpec := { name := "modelMean", fn := fun _ => fun
  | [d1, d2, d3] => { results := [.lit (.bool false)], args := [d1, d2, d3] }
  | _ => none }
def ModelMeanWrongFalsely : Prop := modelMeanRow.holds Tryz.pinned (OpenSpec.ofChange modelMeanWrong)

/-- 'cutwaterlaw19.PoolScales': WHATEVER THE INPUT: true; the input reads as it did. -/
def poolScalesSpec : ChangeSpec := { name := "poolScales", fn := fun _ => fun
  | [d1, d2] => { results := [.lit (.bool true)], args := [d1, d2] }
  | _ => none }
def poolScalesRow : OpenClaim := { program := "ytbmnlaepfckmkaagreat", sum := "7a6c0dfb9f82d9f7fc6ce4c2a5a74aa3d699e5967b38ff44ed37b719c00286e0", func := "cutwater/cutwaterlaw19.PoolScales", spec := "poolScales", inPlace := ["math/bits.Add64", "math/bits.Sub64"], unfollowed := true, recurses := true, named := ["math/bits.divideError", "math/bits.overflowError"], apart := false }
def PoolScalesSaid : Prop := poolScalesRow.holds Tryz.pinned (OpenSpec.ofChange poolScalesSpec)

/-- ITS FALSE NEIGHBOUR: 'it returns false'. Refute it at one input. -/
def poolScalesWrong : ChangeSpec := { name := "poolScales", fn := fun _ => fun
  | [d1, d2] => { results := [.lit (.bool false)], args := [d1, d2] }
  | _ => none }
def PoolScalesWrongFalsely : Prop := poolScalesRow.holds Tryz.pinned (OpenSpec.ofChange poolScalesWrong)

/-- 'cutwaterlaw19.PoolOnce': WHATEVER THE INPUT: true; the input reads as it did. -/
def poolOnceSpec : ChangeSpec := { name := "poolOnce", fn := fun _ => fun
  | [d] => { results := [.lit (.bool true)], args := [d] }
  | _ => none }
def poolOnceRow : OpenClaim := { program := "ytbmnlaepfckmkaagreat", sum := "7a6c0dfb9f82d9f7fc6ce4c2a5a74aa3d699e5967b38ff44ed37b719c00286e0", func := "cutwater/cutwaterlaw19.PoolOnce", spec := "poolOnce", inPlace := ["math/bits.Add64", "math/bits.Sub64"], unfollowed := true, recurses := true, named := ["math/bits.divideError", "math/bits.overflowError"], apart := false }
def PoolOnceSaid : Prop := poolOnceRow.holds Tryz.pinned (OpenSpec.ofChange poolOnceSpec)

/-- ITS FALSE NEIGHBOUR: 'it returns false'. Refute it at one input. -/
def poolOnceWrong : ChangeSpec := { name := "poolOnce", fn := fun _ => fun
  | [d] => { results := [.lit (.bool false)], args := [d] }
  | _ => none }
def PoolOnceWrongFalsely : Prop := poolOnceRow.holds Tryz.pinned (OpenSpec.ofChange poolOnceWrong)

/-- 'cutwaterlaw11.ConsCombines': WHATEVER THE INPUT: true; the input reads as it did. -/
def consCombinesSpec : ChangeSpec := { name := "consCombines", fn := fun _ => fun
  | [d1, d2, d3] => { results := [.lit (.bool true)], args := [d1, d2, d3] }
  | _ => none }
def consCombinesRow : OpenClaim := { program := "ytbmnlaepfckmkaagreat", sum := "7a6c0dfb9f82d9f7fc6ce4c2a5a74aa3d699e5967b38ff44ed37b719c00286e0", func := "cutwater/cutwaterlaw11.ConsCombines", spec := "consCombines", inPlace := ["math/bits.Add64", "math/bits.Sub64"], unfollowed := true, recurses := true, named := ["math/bits.divideError", "math/bits.overflowError"], apart := false }
def ConsCombinesSaid : Prop := consCombinesRow.holds Tryz.pinned (OpenSpec.ofChange consCombinesSpec)

/-- ITS FALSE NEIGHBOUR: 'it returns false'. Refute it at one input. -/
def consCombinesWrong : ChangeSpec := { name := "consCombines", fn := fun _ => fun
  | [d1, d2, d3] => { results := [.lit (.bool false)], args := [d1, d2, d3] }
  | _ => none }
def ConsCombinesWrongFalsely : Prop := consCombinesRow.holds Tryz.pinned (OpenSpec.ofChange consCombinesWrong)

/-- 'cutwaterlaw11.ConsCompares': WHATEVER THE INPUT: true; the input reads as it did. -/
def consComparesSpec : ChangeSpec := { name := "consCompares", fn := fun _ => fun
  | [d1, d2, d3] => { results := [.lit (.bool true)], args := [d1, d2, d3] }
  | _ => none }
def consComparesRow : OpenClaim := { program := "ytbmnlaepfckmkaagreat", sum := "7a6c0dfb9f82d9f7fc6ce4c2a5a74aa3d699e5967b38ff44ed37b719c00286e0", func := "cutwater/cutwaterlaw11.ConsCompares", spec := "consCompares", inPlace := ["math/bits.Add64", "math/bits.Sub64"], unfollowed := true, recurses := true, named := ["math/bits.divideError", "math/bits.overflowError"], apart := false }
def ConsComparesSaid : Prop := consComparesRow.holds Tryz.pinned (OpenSpec.ofChange consComparesSpec)

/-- ITS FALSE NEIGHBOUR: 'it returns false'. Refute it at one input. -/
def consComparesWrong : ChangeSpec := { name := "consCompares", fn := fun _ => fun
  | [d1, d2, d3] => { results := [.lit (.bool false)], args := [d1, d2, d3] }
  | _ => none }
def ConsComparesWrongFalsely : Prop := consComparesRow.holds Tryz.pinned (OpenSpec.ofChange consComparesWrong)

/-- 'cutwaterlaw11.ConsChains': WHATEVER THE INPUT: true; the input reads as it did. -/
def consChainsSpec : ChangeSpec := { name := "consChains", fn := fun _ => fun
  | [d1, d2, d3] => { results := [.lit (.bool true)], args := [d1, d2, d3] }
  | _ => none }
def consChainsRow : OpenClaim := { program := "ytbmnlaepfckmkaagreat", sum := "7a6c0dfb9f82d9f7fc6ce4c2a5a74aa3d699e5967b38ff44ed37b719c00286e0", func := "cutwater/cutwaterlaw11.ConsChains", spec := "consChains", inPlace := ["math/bits.Add64", "math/bits.Sub64"], unfollowed := true, recurses := true, named := ["math/bits.divideError", "math/bits.overflowError"], apart := false }
def ConsChainsSaid : Prop := consChainsRow.holds Tryz.pinned (OpenSpec.ofChange consChainsSpec)

/-- ITS FALSE NEIGHBOUR: 'it returns false'. Refute it at one input. -/
def consChainsWrong : ChangeSpec := { name := "consChains", fn := fun _ => fun
  | [d1, d2, d3] => { results := [.lit (.bool false)], args := [d1, d2, d3] }
  | _ => none }
def ConsChainsWrongFalsely : Prop := consChainsRow.holds Tryz.pinned (OpenSpec.ofChange consChainsWrong)

/-- 'cutwaterlaw11.ConsRounds': WHATEVER THE INPUT: true; the input reads as it did. -/
def consRoundsSpec : ChangeSpec := { name := "consRounds", fn := fun _ => fun
  | [d1, d2, d3] => { results := [.lit (.bool true)], args := [d1, d2, d3] }
  | _ => none }
def consRoundsRow : OpenClaim := { program := "ytbmnlaepfckmkaagreat", sum := "7a6c0dfb9f82d9f7fc6ce4c2a5a74aa3d699e5967b38ff44ed37b719c00286e0", func := "cutwater/cutwaterlaw11.ConsRounds", spec := "consRounds", inPlace := ["math/bits.Add64", "math/bits.Sub64"], unfollowed := true, recurses := true, named := ["math/bits.divideError", "math/bits.overflowError"], apart := false }
def ConsRoundsSaid : Prop := consRoundsRow.holds Tryz.pinned (OpenSpec.ofChange consRoundsSpec)

/-- ITS FALSE NEIGHBOUR: 'it returns false'. Refute it at one input. -/
def consRoundsWrong : ChangeSpec := { name := "consRounds", fn := fun _ => fun
  | [d1, d2, d3] => { results := [.lit (.bool false)], args := [d1, d2, d3] }
  | _ => none }
def ConsRoundsWrongFalsely : Prop := consRoundsRow.holds Tryz.pinned (OpenSpec.ofChange consRoundsWrong)

/-- 'cutwaterlaw11.ConsFollows': WHATEVER THE INPUT: true; the input reads as it did. -/
def consFollowsSpec : ChangeSpec := { name := "consFollows", fn := fun _ => fun
  | [d1, d2, d3] => { results := [.lit (.bool true)], args := [d1, d2, d3] }
  | _ => none }
def consFollowsRow : OpenClaim := { program := "ytbmnlaepfckmkaagreat", sum := "7a6c0dfb9f82d9f7fc6ce4c2a5a74aa3d699e5967b38ff44ed37b719c00286e0", func := "cutwater/cutwaterlaw11.ConsFollows", spec := "consFollows", inPlace := ["math/bits.Add64", "math/bits.Sub64"], unfollowed := true, recurses := true, named := ["math/bits.divideError", "math/bits.overflowError"], apart := false }
def ConsFollowsSaid : Prop := consFollowsRow.holds Tryz.pinned (OpenSpec.ofChange consFollowsSpec)

/-- ITS FALSE NEIGHBOUR: 'it returns false'. Refute it at one input. -/
def consFollowsWrong : ChangeSpec := { name := "consFollows", fn := fun _ => fun
  | [d1, d2, d3] => { results := [.lit (.bool false)], args := [d1, d2, d3] }
  | _ => none }
def ConsFollowsWrongFalsely : Prop := consFollowsRow.holds Tryz.pinned (OpenSpec.ofChange consFollowsWrong)

/-- 'cutwaterlaw11.ConsWhole': WHATEVER THE INPUT: true; the input reads as it did. -/
def consWholeSpec : ChangeSpec := { name := "consWhole", fn := fun _ => fun
  | [d1, d2, d3] => { results := [.lit (.bool true)], args := [d1, d2, d3] }
  | _ => none }
def consWholeRow : OpenClaim := { program := "ytbmnlaepfckmkaagreat", sum := "7a6c0dfb9f82d9f7fc6ce4c2a5a74aa3d699e5967b38ff44ed37b719c00286e0", func := "cutwater/cutwaterlaw11.ConsWhole", spec := "consWhole", inPlace := ["math/bits.Add64", "math/bits.Sub64"], unfollowed := true, recurses := true, named := ["math/bits.divideError", "math/bits.overflowError"], apart := false }
def ConsWholeSaid : Prop := consWholeRow.holds Tryz.pinned (OpenSpec.ofChange consWholeSpec)

/-- ITS FALSE NEIGHBOUR: 'it returns false'. Refute it at one input. -/
def consWholeWrong : ChangeSpec := { name := "consWhole", fn := fun _ => fun
  | [d1, d2, d3] => { results := [.lit (.bool false)], args := [d1, d2, d3] }
  | _ => none }
def ConsWholeWrongFalsely : Prop := consWholeRow.holds Tryz.pinned (OpenSpec.ofChange consWholeWrong)

/-- 'cutwaterlaw11.ConsOnce': WHATEVER THE INPUT: true; the input reads as it did. -/
def consOnceSpec : ChangeSpec := { name := "consOnce", fn := fun _ => fun
  | [d1, d2] => { results := [.lit (.bool true)], args := [d1, d2] }
  | _ => none }
def consOnceRow : OpenClaim := { program := "ytbmnlaepfckmkaagreat", sum := "7a6c0dfb9f82d9f7fc6ce4c2a5a74aa3d699e5967b38ff44ed37b719c00286e0", func := "cutwater/cutwaterlaw11.ConsOnce", spec := "consOnce", inPlace := ["math/bits.Add64", "math/bits.Sub64"], unfollowed := true, recurses := true, named := ["math/bits.divideError", "math/bits.overflowError"], apart := false }
def ConsOnceSaid : Prop := consOnceRow.holds Tryz.pinned (OpenSpec.ofChange consOnceSpec)

/-- ITS FALSE NEIGHBOUR: 'it returns false'. Refute it at one input. -/
def consOnceWrong : ChangeSpec := { name := "consOnce", fn := fun _ => fun
  | [d1, d2] => { results := [.lit (.bool false)], args := [d1, d2] }
  | _ => none }
def ConsOnceWrongFalsely : Prop := consOnceRow.holds Tryz.pinned (OpenSpec.ofChange consOnceWrong)

/- THE SECOND FORM. 'bulk': how many values and letters a reading holds, each counted each time it is reached (what is shared counts as often as it is met; a slice's spare places count too). A statement '..UptoSaid' is the law's where the arguments, and the package variables that the reading takes, are together of bulk at most 1048576: NARROWER than '..Said'. Prove '..Said' where nothing that the law and all that it calls make is longer than what came in: it says more and counts as full. Else prove '..UptoSaid'. A law counts once. -/
mutual
def uptoBulk {H : Type} : DataW H → Nat
  | .lit (.string bytes) => bytes.length + 1
  | .lit _ => 1
  | .nil => 1
  | .ptr d => uptoBulk d + 1
  | .slice elems spare => uptoBulkAll elems + uptoBulkAll spare + 1
  | .agg parts => uptoBulkAll parts + 1
  | .iface _ d => uptoBulk d + 1
  | .map entries => uptoBulkEntries entries + 1
  | .held _ => 1
def uptoBulkAll {H : Type} : List (DataW H) → Nat
  | [] => 0
  | d :: r => uptoBulk d + uptoBulkAll r
def uptoBulkEntries {H : Type} : List (Lit × DataW H) → Nat
  | [] => 0
  | x :: r => uptoBulkEntry x + uptoBulkEntries r
def uptoBulkEntry {H : Type} : Lit × DataW H → Nat
  | (.string bytes, d) => bytes.length + uptoBulk d + 1
  | (_, d) => uptoBulk d + 1
 end
def uptoSmall : (H : Type) → List (DataW H) → Bool := fun _ ds => decide (uptoBulkAll ds ≤ 1048576)
def OpenSpec.upto (s : _root_.Go.ChangeSpec) : _root_.Go.OpenSpec := { _root_.Go.OpenSpec.ofChange s with cond := some uptoSmall }

/-- 'cutwaterlaw10.ModelTells', WHERE WHAT IT READS IS OF BULK AT MOST 1048576: true; the input reads as it did. -/
def modelTellsUptoRow : OpenClaim := { program := "ytbmnlaepfckmkaagreat", sum := "7a6c0dfb9f82d9f7fc6ce4c2a5a74aa3d699e5967b38ff44ed37b719c00286e0", func := "cutwater/cutwaterlaw10.ModelTells", spec := "modelTells", inPlace := ["math/bits.Add64", "math/bits.Sub64"], unfollowed := true, recurses := true, named := ["math/bits.divideError", "math/bits.overflowError"], apart := false, narrowed := true }
def ModelTellsUptoSaid : Prop := modelTellsUptoRow.holds Tryz.pinned (OpenSpec.upto modelTellsSpec)

/-- 'cutwaterlaw10.ModelConstraints', WHERE WHAT IT READS IS OF BULK AT MOST 1048576: true; the input reads as it did. -/
def modelConstraintsUptoRow : OpenClaim := { program := "ytbmnlaepfckmkaagreat", sum := "7a6c0dfb9f82d9f7fc6ce4c2a5a74aa3d699e5967b38ff44ed37b719c00286e0", func := "cutwater/cutwaterlaw10.ModelConstraints", spec := "modelConstraints", inPlace := ["math/bits.Add64", "math/bits.Sub64"], unfollowed := true, recurses := true, named := ["math/bits.divideError", "math/bits.overflowError"], apart := false, narrowed := true }
def ModelConstraintsUptoSaid : Prop := modelConstraintsUptoRow.holds Tryz.pinned (OpenSpec.upto modelConstraintsSpec)

/-- 'cutwaterlaw10.ModelMean', WHERE WHAT IT READS IS OF BULK AT MOST 1048576: true; the input reads as it did. -/
def modelMeanUptoRow : OpenClaim := { program := "ytbmnlaepfckmkaagreat", sum := "7a6c0dfb9f82d9f7fc6ce4c2a5a74aa3d699e5967b38ff44ed37b719c00286e0", func := "cutwater/cutwaterlaw10.ModelMean", spec := "modelMean", inPlace := ["math/bits.Add64", "math/bits.Sub64"], unfollowed := true, recurses := true, named := ["math/bits.divideError", "math/bits.overflowError"], apart := false, narrowed := true }
def ModelMeanUptoSaid : Prop := modelMeanUptoRow.holds Tryz.pinned (OpenSpec.upto modelMeanSpec)

/-- 'cutwaterlaw19.PoolScales', WHERE WHAT IT READS IS OF BULK AT MOST 1048576: true; the input reads as it did. -/
def poolScalesUptoRow : OpenClaim := { program := "ytbmnlaepfckmkaagreat", sum := "7a6c0dfb9f82d9f7fc6ce4c2a5a74aa3d699e5967b38ff44ed37b719c00286e0", func := "cutwater/cutwaterlaw19.PoolScales", spec := "poolScales", inPlace := ["math/bits.Add64", "math/bits.Sub64"], unfollowed := true, recurses := true, named := ["math/bits.divideError", "math/bits.overflowError"], apart := false, narrowed := true }
def PoolScalesUptoSaid : Prop := poolScalesUptoRow.holds Tryz.pinned (OpenSpec.upto poolScalesSpec)

/-- 'cutwaterlaw19.PoolOnce', WHERE WHAT IT READS IS OF BULK AT MOST 1048576: true; the input reads as it did. -/
def poolOnceUptoRow : OpenClaim := { program := "ytbmnlaepfckmkaagreat", sum := "7a6c0dfb9f82d9f7fc6ce4c2a5a74aa3d699e5967b38ff44ed37b719c00286e0", func := "cutwater/cutwaterlaw19.PoolOnce", spec := "poolOnce", inPlace := ["math/bits.Add64", "math/bits.Sub64"], unfollowed := true, recurses := true, named := ["math/bits.divideError", "math/bits.overflowError"], apart := false, narrowed := true }
def PoolOnceUptoSaid : Prop := poolOnceUptoRow.holds Tryz.pinned (OpenSpec.upto poolOnceSpec)

/-- 'cutwaterlaw11.ConsCombines', WHERE WHAT IT READS IS OF BULK AT MOST 1048576: true; the input reads as it did. -/
def consCombinesUptoRow : OpenClaim := { program := "ytbmnlaepfckmkaagreat", sum := "7a6c0dfb9f82d9f7fc6ce4c2a5a74aa3d699e5967b38ff44ed37b719c00286e0", func := "cutwater/cutwaterlaw11.ConsCombines", spec := "consCombines", inPlace := ["math/bits.Add64", "math/bits.Sub64"], unfollowed := true, recurses := true, named := ["math/bits.divideError", "math/bits.overflowError"], apart := false, narrowed := true }
def ConsCombinesUptoSaid : Prop := consCombinesUptoRow.holds Tryz.pinned (OpenSpec.upto consCombinesSpec)

/-- 'cutwaterlaw11.ConsCompares', WHERE WHAT IT READS IS OF BULK AT MOST 1048576: true; the input reads as it did. -/
def consComparesUptoRow : OpenClaim := { program := "ytbmnlaepfckmkaagreat", sum := "7a6c0dfb9f82d9f7fc6ce4c2a5a74aa3d699e5967b38ff44ed37b719c00286e0", func := "cutwater/cutwaterlaw11.ConsCompares", spec := "consCompares", inPlace := ["math/bits.Add64", "math/bits.Sub64"], unfollowed := true, recurses := true, named := ["math/bits.divideError", "math/bits.overflowError"], apart := false, narrowed := true }
def ConsComparesUptoSaid : Prop := consComparesUptoRow.holds Tryz.pinned (OpenSpec.upto consComparesSpec)

/-- 'cutwaterlaw11.ConsChains', WHERE WHAT IT READS IS OF BULK AT MOST 1048576: true; the input reads as it did. -/
def consChainsUptoRow : OpenClaim := { program := "ytbmnlaepfckmkaagreat", sum := "7a6c0dfb9f82d9f7fc6ce4c2a5a74aa3d699e5967b38ff44ed37b719c00286e0", func := "cutwater/cutwaterlaw11.ConsChains", spec := "consChains", inPlace := ["math/bits.Add64", "math/bits.Sub64"], unfollowed := true, recurses := true, named := ["math/bits.divideError", "math/bits.overflowError"], apart := false, narrowed := true }
def ConsChainsUptoSaid : Prop := consChainsUptoRow.holds Tryz.pinned (OpenSpec.upto consChainsSpec)

/-- 'cutwaterlaw11.ConsRounds', WHERE WHAT IT READS IS OF BULK AT MOST 1048576: true; the input reads as it did. -/
def consRoundsUptoRow : OpenClaim := { program := "ytbmnlaepfckmkaagreat", sum := "7a6c0dfb9f82d9f7fc6ce4c2a5a74aa3d699e5967b38ff44ed37b719c00286e0", func := "cutwater/cutwaterlaw11.ConsRounds", spec := "consRounds", inPlace := ["math/bits.Add64", "math/bits.Sub64"], unfollowed := true, recurses := true, named := ["math/bits.divideError", "math/bits.overflowError"], apart := false, narrowed := true }
def ConsRoundsUptoSaid : Prop := consRoundsUptoRow.holds Tryz.pinned (OpenSpec.upto consRoundsSpec)

/-- 'cutwaterlaw11.ConsFollows', WHERE WHAT IT READS IS OF BULK AT MOST 1048576: true; the input reads as it did. -/
def consFollowsUptoRow : OpenClaim := { program := "ytbmnlaepfckmkaagreat", sum := "7a6c0dfb9f82d9f7fc6ce4c2a5a74aa3d699e5967b38ff44ed37b719c00286e0", func := "cutwater/cutwaterlaw11.ConsFollows", spec := "consFollows", inPlace := ["math/bits.Add64", "math/bits.Sub64"], unfollowed := true, recurses := true, named := ["math/bits.divideError", "math/bits.overflowError"], apart := false, narrowed := true }
def ConsFollowsUptoSaid : Prop := consFollowsUptoRow.holds Tryz.pinned (OpenSpec.upto consFollowsSpec)

/-- 'cutwaterlaw11.ConsWhole', WHERE WHAT IT READS IS OF BULK AT MOST 1048576: true; the input reads as it did. -/
def consWholeUptoRow : OpenClaim := { program := "ytbmnlaepfckmkaagreat", sum := "7a6c0dfb9f82d9f7fc6ce4c2a5a74aa3d699e5967b38ff44ed37b719c00286e0", func := "cutwater/cutwaterlaw11.ConsWhole", spec := "consWhole", inPlace := ["math/bits.Add64", "math/bits.Sub64"], unfollowed := true, recurses := true, named := ["math/bits.divideError", "math/bits.overflowError"], apart := false, narrowed := true }
def ConsWholeUptoSaid : Prop := consWholeUptoRow.holds Tryz.pinned (OpenSpec.upto consWholeSpec)

/-- 'cutwaterlaw11.ConsOnce', WHERE WHAT IT READS IS OF BULK AT MOST 1048576: true; the input reads as it did. -/
def consOnceUptoRow : OpenClaim := { program := "ytbmnlaepfckmkaagreat", sum := "7a6c0dfb9f82d9f7fc6ce4c2a5a74aa3d699e5967b38ff44ed37b719c00286e0", func := "cutwater/cutwaterlaw11.ConsOnce", spec := "consOnce", inPlace := ["math/bits.Add64", "math/bits.Sub64"], unfollowed := true, recurses := true, named := ["math/bits.divideError", "math/bits.overflowError"], apart := false, narrowed := true }
def ConsOnceUptoSaid : Prop := consOnceUptoRow.holds Tryz.pinned (OpenSpec.upto consOnceSpec)

end Rows
end Go.Proofs.YtbmnlaepfckmkaaGreat
