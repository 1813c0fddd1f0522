/-
  No cell of these rows narrows 'for every input' (looked for: loops, veiled, ifaces, maps, wideKeys, modest, calm, conditions, laid).
  DERIVED. THE GIVEN ROWS OF THIS SEAT. 8 by the template 'for every input the law returns true; each argument reads behind the call as it read before'; 0 by the template 'total and deterministic' (their statements: YtnefipinicfegaaTotals.lean).
  GIVEN WITH THE SEED: the statements are not yours to turn. If you find one false, say at which input.
  Laid BY PROGRAM, IN A SANDBOX (cutbox-rows.mjs): the forced cells as the released guide's own fill.sh prints them over the translation 5b8f895a05ed03c9… (all of the seat's roots in one cut). By AI agents, Wed Nov 11 2026. No macro, syntax, notation, axiom, sorry.
-/
import Derived.Test.YtnefipinicfegaaChecked
import GoSem.Claim
import GoSem.ClaimJoined
import GoSem.ClaimMapViews
import Derived.JoinedTies
import Derived.KernelRfl
namespace Go.Proofs.Ytnefipinicfegaa
/- THE CELL 'sum', in the pinned program and in every row, IS THE sha256 OF THE DUMP (.gsa) THAT YtnefipinicfegaaProg.lean LOADS. Nothing in Lean hashes anything: it is a label: what it is worth is what the hold of that sum in a sandbox is worth. -/
noncomputable def Try.pinned : Pinned := { name := "ytnefipinicfegaa", sum := "5b8f895a05ed03c9745518925c90b20c70a7ca92302c6e66d751f7b3a5a403ce", checked := Try.checked }
namespace Rows
def none {H : Type} : Left H := { results := [], args := [] }

/-- 'cutwaterlaw03.RatMakes': WHATEVER THE INPUT: true; the input reads as it did. -/
def ratMakesSpec : ChangeSpec := { name := "ratMakes", fn := fun _ => fun
  | [d1, d2] => { results := [.lit (.bool true)], args := [d1, d2] }
  | _ => none }
def ratMakesRow : OpenClaim := { program := "ytnefipinicfegaa", sum := "5b8f895a05ed03c9745518925c90b20c70a7ca92302c6e66d751f7b3a5a403ce", func := "cutwater/cutwaterlaw03.RatMakes", spec := "ratMakes", inPlace := ["math/bits.Add64", "math/bits.Sub64"], recurses := true, named := ["math/bits.divideError", "math/bits.overflowError"], apart := false }
def RatMakesSaid : Prop := ratMakesRow.holds Try.pinned (OpenSpec.ofChange ratMakesSpec)

/-- ITS FALSE NEIGHBOUR: 'it returns false'. Refute it at one input. -/
def ratMakesWrong : ChangeSpec := { name := "ratMakes", fn := fun _ => fun
  | [d1, d2] => { results := [.lit (.bool false)], args := [d1, d2] }
  | _ => none }
def RatMakesWrongFalsely : Prop := ratMakesRow.holds Try.pinned (OpenSpec.ofChange ratMakesWrong)

/-- 'cutwaterlaw03.RatSmall': WHATEVER THE INPUT: true; the input reads as it did. -/
def ratSmallSpec : ChangeSpec := { name := "ratSmall", fn := fun _ => fun
  | [d1, d2] => { results := [.lit (.bool true)], args := [d1, d2] }
  | _ => none }
def ratSmallRow : OpenClaim := { program := "ytnefipinicfegaa", sum := "5b8f895a05ed03c9745518925c90b20c70a7ca92302c6e66d751f7b3a5a403ce", func := "cutwater/cutwaterlaw03.RatSmall", spec := "ratSmall", inPlace := ["math/bits.Add64", "math/bits.Sub64"], recurses := true, named := ["math/bits.divideError", "math/bits.overflowError"], apart := false }
def RatSmallSaid : Prop := ratSmallRow.holds Try.pinned (OpenSpec.ofChange ratSmallSpec)

/-- ITS FALSE NEIGHBOUR: 'it returns false'. Refute it at one input. -/
def ratSmallWrong : ChangeSpec := { name := "ratSmall", fn := fun _ => fun
  | [d1, d2] => { results := [.lit (.bool false)], args := [d1, d2] }
  | _ => none }
def RatSmallWrongFalsely : Prop := ratSmallRow.holds Try.pinned (OpenSpec.ofChange ratSmallWrong)

/-- 'cutwaterlaw03.RatRounds': WHATEVER THE INPUT: true; the input reads as it did. -/
def ratRoundsSpec : ChangeSpec := { name := "ratRounds", fn := fun _ => fun
  | [d] => { results := [.lit (.bool true)], args := [d] }
  | _ => none }
def ratRoundsRow : OpenClaim := { program := "ytnefipinicfegaa", sum := "5b8f895a05ed03c9745518925c90b20c70a7ca92302c6e66d751f7b3a5a403ce", func := "cutwater/cutwaterlaw03.RatRounds", spec := "ratRounds", inPlace := ["math/bits.Add64", "math/bits.Sub64"], recurses := true, named := ["math/bits.divideError", "math/bits.overflowError"], apart := false }
def RatRoundsSaid : Prop := ratRoundsRow.holds Try.pinned (OpenSpec.ofChange ratRoundsSpec)

/-- ITS FALSE NEIGHBOUR: 'it returns false'. Refute it at one input. -/
def ratRoundsWrong : ChangeSpec := { name := "ratRounds", fn := fun _ => fun
  | [d] => { results := [.lit (.bool false)], args := [d] }
  | _ => none }
def RatRoundsWrongFalsely : Prop := ratRoundsRow.holds Try.pinned (OpenSpec.ofChange ratRoundsWrong)

/-- 'cutwaterlaw03.RatQuotients': WHATEVER THE INPUT: true; the input reads as it did. -/
def ratQuotientsSpec : ChangeSpec := { name := "ratQuotients", fn := fun _ => fun
  | [d1, d2] => { results := [.lit (.bool true)], args := [d1, d2] }
  | _ => none }
def ratQuotientsRow : OpenClaim := { program := "ytnefipinicfegaa", sum := "5b8f895a05ed03c9745518925c90b20c70a7ca92302c6e66d751f7b3a5a403ce", func := "cutwater/cutwaterlaw03.RatQuotients", spec := "ratQuotients", inPlace := ["math/bits.Add64", "math/bits.Sub64"], recurses := true, named := ["math/bits.divideError", "math/bits.overflowError"], apart := false }
def RatQuotientsSaid : Prop := ratQuotientsRow.holds Try.pinned (OpenSpec.ofChange ratQuotientsSpec)

/-- ITS FALSE NEIGHBOUR: 'it returns false'. Refute it at one input. -/
def ratQuotientsWrong : ChangeSpec := { name := "ratQuotients", fn := fun _ => fun
  | [d1, d2] => { results := [.lit (.bool false)], args := [d1, d2] }
  | _ => none }
def RatQuotientsWrongFalsely : Prop := ratQuotientsRow.holds Try.pinned (OpenSpec.ofChange ratQuotientsWrong)

/-- 'cutwaterlaw03.RatOrder': WHATEVER THE INPUT: true; the input reads as it did. -/
def ratOrderSpec : ChangeSpec := { name := "ratOrder", fn := fun _ => fun
  | [d1, d2, d3] => { results := [.lit (.bool true)], args := [d1, d2, d3] }
  | _ => none }
def ratOrderRow : OpenClaim := { program := "ytnefipinicfegaa", sum := "5b8f895a05ed03c9745518925c90b20c70a7ca92302c6e66d751f7b3a5a403ce", func := "cutwater/cutwaterlaw03.RatOrder", spec := "ratOrder", inPlace := ["math/bits.Add64", "math/bits.Sub64"], recurses := true, named := ["math/bits.divideError", "math/bits.overflowError"], apart := false }
def RatOrderSaid : Prop := ratOrderRow.holds Try.pinned (OpenSpec.ofChange ratOrderSpec)

/-- ITS FALSE NEIGHBOUR: 'it returns false'. Refute it at one input. -/
def ratOrderWrong : ChangeSpec := { name := "ratOrder", fn := fun _ => fun
  | [d1, d2, d3] => { results := [.lit (.bool false)], args := [d1, d2, d3] }
  | _ => none }
def RatOrderWrongFalsely : Prop := ratOrderRow.holds Try.pinned (OpenSpec.ofChange ratOrderWrong)

/-- 'cutwaterlaw03.RatCeils': WHATEVER THE INPUT: true; the input reads as it did. -/
def ratCeilsSpec : ChangeSpec := { name := "ratCeils", fn := fun _ => fun
  | [d] => { results := [.lit (.bool true)], args := [d] }
  | _ => none }
def ratCeilsRow : OpenClaim := { program := "ytnefipinicfegaa", sum := "5b8f895a05ed03c9745518925c90b20c70a7ca92302c6e66d751f7b3a5a403ce", func := "cutwater/cutwaterlaw03.RatCeils", spec := "ratCeils", inPlace := ["math/bits.Add64", "math/bits.Sub64"], recurses := true, named := ["math/bits.divideError", "math/bits.overflowError"], apart := false }
def RatCeilsSaid : Prop := ratCeilsRow.holds Try.pinned (OpenSpec.ofChange ratCeilsSpec)

/-- ITS FALSE NEIGHBOUR: 'it returns false'. Refute it at one input. -/
def ratCeilsWrong : ChangeSpec := { name := "ratCeils", fn := fun _ => fun
  | [d] => { results := [.lit (.bool false)], args := [d] }
  | _ => none }
def RatCeilsWrongFalsely : Prop := ratCeilsRow.holds Try.pinned (OpenSpec.ofChange ratCeilsWrong)

/-- 'cutwaterlaw03.RatSums': WHATEVER THE INPUT: true; the input reads as it did. -/
def ratSumsSpec : ChangeSpec := { name := "ratSums", fn := fun _ => fun
  | [d1, d2] => { results := [.lit (.bool true)], args := [d1, d2] }
  | _ => none }
def ratSumsRow : OpenClaim := { program := "ytnefipinicfegaa", sum := "5b8f895a05ed03c9745518925c90b20c70a7ca92302c6e66d751f7b3a5a403ce", func := "cutwater/cutwaterlaw03.RatSums", spec := "ratSums", inPlace := ["math/bits.Add64", "math/bits.Sub64"], recurses := true, named := ["math/bits.divideError", "math/bits.overflowError"], apart := false }
def RatSumsSaid : Prop := ratSumsRow.holds Try.pinned (OpenSpec.ofChange ratSumsSpec)

/-- ITS FALSE NEIGHBOUR: 'it returns false'. Refute it at one input. -/
def ratSumsWrong : ChangeSpec := { name := "ratSums", fn := fun _ => fun
  | [d1, d2] => { results := [.lit (.bool false)], args := [d1, d2] }
  | _ => none }
def RatSumsWrongFalsely : Prop := ratSumsRow.holds Try.pinned (OpenSpec.ofChange ratSumsWrong)

/-- 'cutwaterlaw03.RatField': WHATEVER THE INPUT: true; the input reads as it did. -/
def ratFieldSpec : ChangeSpec := { name := "ratField", fn := fun _ => fun
  | [d1, d2, d3] => { results := [.lit (.bool true)], args := [d1, d2, d3] }
  | _ => none }
def ratFieldRow : OpenClaim := { program := "ytnefipinicfegaa", sum := "5b8f895a05ed03c9745518925c90b20c70a7ca92302c6e66d751f7b3a5a403ce", func := "cutwater/cutwaterlaw03.RatField", spec := "ratField", inPlace := ["math/bits.Add64", "math/bits.Sub64"], recurses := true, named := ["math/bits.divideError", "math/bits.overflowError"], apart := false }
def RatFieldSaid : Prop := ratFieldRow.holds Try.pinned (OpenSpec.ofChange ratFieldSpec)

/-- ITS FALSE NEIGHBOUR: 'it returns false'. Refute it at one input. -/
def ratFieldWrong : ChangeSpec := { name := "ratField", fn := fun _ => fun
  | [d1, d2, d3] => { results := [.lit (.bool false)], args := [d1, d2, d3] }
  | _ => none }
def RatFieldWrongFalsely : Prop := ratFieldRow.holds Try.pinned (OpenSpec.ofChange ratFieldWrong)

/- THE SECOND FORM. 'bulk': how many values and letters a reading holds, each counted each time it is reached (what is shared counts as often as it is met; a slice's spare places count too). A statement '..UptoSaid' is the law's where the arguments, and the package variables that the reading takes, are together of bulk at most 1048576: NARROWER than '..Said'. Prove '..Said' where nothing that the law and all that it calls make is longer than what came in: it says more and counts as full. Else prove '..UptoSaid'. A law counts once. -/
mutual
def uptoBulk {H : Type} : DataW H → Nat
  | .lit (.string bytes) => bytes.length + 1
  | .lit _ => 1
  | .nil => 1
  | .ptr d => uptoBulk d + 1
  | .slice elems spare => uptoBulkAll elems + uptoBulkAll spare + 1
  | .agg parts => uptoBulkAll parts + 1
  | .iface _ d => uptoBulk d + 1
  | .map entries => uptoBulkEntries entries + 1
  | .held _ => 1
def uptoBulkAll {H : Type} : List (DataW H) → Nat
  | [] => 0
  | d :: r => uptoBulk d + uptoBulkAll r
def uptoBulkEntries {H : Type} : List (Lit × DataW H) → Nat
  | [] => 0
  | x :: r => uptoBulkEntry x + uptoBulkEntries r
def uptoBulkEntry {H : Type} : Lit × DataW H → Nat
  | (.string bytes, d) => bytes.length + uptoBulk d + 1
  | (_, d) => uptoBulk d + 1
 end
def uptoSmall : (H : Type) → List (DataW H) → Bool := fun _ ds => decide (uptoBulkAll ds ≤ 1048576)
def OpenSpec.upto (s : _root_.Go.ChangeSpec) : _root_.Go.OpenSpec := { _root_.Go.OpenSpec.ofChange s with cond := some uptoSmall }

/-- 'cutwaterlaw03.RatMakes', WHERE WHAT IT READS IS OF BULK AT MOST 1048576: true; the input reads as it did. -/
def ratMakesUptoRow : OpenClaim := { program := "ytnefipinicfegaa", sum := "5b8f895a05ed03c9745518925c90b20c70a7ca92302c6e66d751f7b3a5a403ce", func := "cutwater/cutwaterlaw03.RatMakes", spec := "ratMakes", inPlace := ["math/bits.Add64", "math/bits.Sub64"], recurses := true, named := ["math/bits.divideError", "math/bits.overflowError"], apart := false, narrowed := true }
def RatMakesUptoSaid : Prop := ratMakesUptoRow.holds Try.pinned (OpenSpec.upto ratMakesSpec)

/-- 'cutwaterlaw03.RatSmall', WHERE WHAT IT READS IS OF BULK AT MOST 1048576: true; the input reads as it did. -/
def ratSmallUptoRow : OpenClaim := { program := "ytnefipinicfegaa", sum := "5b8f895a05ed03c9745518925c90b20c70a7ca92302c6e66d751f7b3a5a403ce", func := "cutwater/cutwaterlaw03.RatSmall", spec := "ratSmall", inPlace := ["math/bits.Add64", "math/bits.Sub64"], recurses := true, named := ["math/bits.divideError", "math/bits.overflowError"], apart := false, narrowed := true }
def RatSmallUptoSaid : Prop := ratSmallUptoRow.holds Try.pinned (OpenSpec.upto ratSmallSpec)

/-- 'cutwaterlaw03.RatRounds', WHERE WHAT IT READS IS OF BULK AT MOST 1048576: true; the input reads as it did. -/
def ratRoundsUptoRow : OpenClaim := { program := "ytnefipinicfegaa", sum := "5b8f895a05ed03c9745518925c90b20c70a7ca92302c6e66d751f7b3a5a403ce", func := "cutwater/cutwaterlaw03.RatRounds", spec := "ratRounds", inPlace := ["math/bits.Add64", "math/bits.Sub64"], recurses := true, named := ["math/bits.divideError", "math/bits.overflowError"], apart := false, narrowed := true }
def RatRoundsUptoSaid : Prop := ratRoundsUptoRow.holds Try.pinned (OpenSpec.upto ratRoundsSpec)

/-- 'cutwaterlaw03.RatQuotients', WHERE WHAT IT READS IS OF BULK AT MOST 1048576: true; the input reads as it did. -/
def ratQuotientsUptoRow : OpenClaim := { program := "ytnefipinicfegaa", sum := "5b8f895a05ed03c9745518925c90b20c70a7ca92302c6e66d751f7b3a5a403ce", func := "cutwater/cutwaterlaw03.RatQuotients", spec := "ratQuotients", inPlace := ["math/bits.Add64", "math/bits.Sub64"], recurses := true, named := ["math/bits.divideError", "math/bits.overflowError"], apart := false, narrowed := true }
def RatQuotientsUptoSaid : Prop := ratQuotientsUptoRow.holds Try.pinned (OpenSpec.upto ratQuotientsSpec)

/-- 'cutwaterlaw03.RatOrder', WHERE WHAT IT READS IS OF BULK AT MOST 1048576: true; the input reads as it did. -/
def ratOrderUptoRow : OpenClaim := { program := "ytnefipinicfegaa", sum := "5b8f895a05ed03c9745518925c90b20c70a7ca92302c6e66d751f7b3a5a403ce", func := "cutwater/cutwaterlaw03.RatOrder", spec := "ratOrder", inPlace := ["math/bits.Add64", "math/bits.Sub64"], recurses := true, named := ["math/bits.divideError", "math/bits.overflowError"], apart := false, narrowed := true }
def RatOrderUptoSaid : Prop := ratOrderUptoRow.holds Try.pinned (OpenSpec.upto ratOrderSpec)

/-- 'cutwaterlaw03.RatCeils', WHERE WHAT IT READS IS OF BULK AT MOST 1048576: true; the input reads as it did. -/
def ratCeilsUptoRow : OpenClaim := { program := "ytnefipinicfegaa", sum := "5b8f895a05ed03c9745518925c90b20c70a7ca92302c6e66d751f7b3a5a403ce", func := "cutwater/cutwaterlaw03.RatCeils", spec := "ratCeils", inPlace := ["math/bits.Add64", "math/bits.Sub64"], recurses := true, named := ["math/bits.divideError", "math/bits.overflowError"], apart := false, narrowed := true }
def RatCeilsUptoSaid : Prop := ratCeilsUptoRow.holds Try.pinned (OpenSpec.upto ratCeilsSpec)

/-- 'cutwaterlaw03.RatSums', WHERE WHAT IT READS IS OF BULK AT MOST 1048576: true; the input reads as it did. -/
def ratSumsUptoRow : OpenClaim := { program := "ytnefipinicfegaa", sum := "5b8f895a05ed03c9745518925c90b20c70a7ca92302c6e66d751f7b3a5a403ce", func := "cutwater/cutwaterlaw03.RatSums", spec := "ratSums", inPlace := ["math/bits.Add64", "math/bits.Sub64"], recurses := true, named := ["math/bits.divideError", "math/bits.overflowError"], apart := false, narrowed := true }
def RatSumsUptoSaid : Prop := ratSumsUptoRow.holds Try.pinned (OpenSpec.upto ratSumsSpec)

/-- 'cutwaterlaw03.RatField', WHERE WHAT IT READS IS OF BULK AT MOST 1048576: true; the input reads as it did. -/
def ratFieldUptoRow : OpenClaim := { program := "ytnefipinicfegaa", sum := "5b8f895a05ed03c9745518925c90b20c70a7ca92302c6e66d751f7b3a5a403ce", func := "cutwater/cutwaterlaw03.RatField", spec := "ratField", inPlace := ["math/bits.Add64", "math/bits.Sub64"], recurses := true, named := ["math/bits.divideError", "math/bits.overflowError"], apart := false, narrowed := true }
def RatFieldUptoSaid : Prop := ratFieldUptoRow.holds Try.pinned (OpenSpec.upto ratFieldSpec)

end Rows
end Go.Proofs.Ytnefipinicfegaa
