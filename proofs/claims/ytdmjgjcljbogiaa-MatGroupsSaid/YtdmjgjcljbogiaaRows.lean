/-
  No cell of these rows narrows 'for every input' (looked for: loops, veiled, ifaces, maps, wideKeys, modest, calm, conditions, laid).
  DERIVED. THE GIVEN ROWS OF THIS SEAT. 7 by the template 'for every input the law returns true; each argument reads behind the call as it read before'; 0 by the template 'total and deterministic' (their statements: YtdmjgjcljbogiaaTotals.lean).
  GIVEN WITH THE SEED: the statements are not yours to turn. If you find one false, say at which input.
  Laid BY PROGRAM, IN A SANDBOX (cutbox-rows.mjs): the forced cells as the released guide's own fill.sh prints them over the translation ff6714cfab676a63… (all of the seat's roots in one cut). By AI agents, Wed Nov 11 2026. No macro, syntax, notation, axiom, sorry.
-/
import Derived.Test.YtdmjgjcljbogiaaChecked
import GoSem.Claim
import GoSem.ClaimJoined
import GoSem.ClaimMapViews
import Derived.JoinedTies
import Derived.KernelRfl
namespace Go.Proofs.Ytdmjgjcljbogiaa
/- THE CELL 'sum', in the pinned program and in every row, IS THE sha256 OF THE DUMP (.gsa) THAT YtdmjgjcljbogiaaProg.lean LOADS. Nothing in Lean hashes anything: it is a label: what it is worth is what the hold of that sum in a sandbox is worth. -/
noncomputable def Try.pinned : Pinned := { name := "ytdmjgjcljbogiaa", sum := "ff6714cfab676a637f8f91e7aaf6f0a063a404ea950c7d0e3fa9621d6781354f", checked := Try.checked }
namespace Rows
def none {H : Type} : Left H := { results := [], args := [] }

/-- 'cutwaterlaw03.RatMakes': WHATEVER THE INPUT: true; the input reads as it did. -/
def ratMakesSpec : ChangeSpec := { name := "ratMakes", fn := fun _ => fun
  | [d1, d2] => { results := [.lit (.bool true)], args := [d1, d2] }
  | _ => none }
def ratMakesRow : OpenClaim := { program := "ytdmjgjcljbogiaa", sum := "ff6714cfab676a637f8f91e7aaf6f0a063a404ea950c7d0e3fa9621d6781354f", func := "cutwater/cutwaterlaw03.RatMakes", spec := "ratMakes", inPlace := ["math/bits.Add64", "math/bits.Sub64"], recurses := true, named := ["math/bits.divideError", "math/bits.overflowError"], apart := false }
def RatMakesSaid : Prop := ratMakesRow.holds Try.pinned (OpenSpec.ofChange ratMakesSpec)

/-- ITS FALSE NEIGHBOUR: 'it returns false'. Refute it at one input. -/
def ratMakesWrong : ChangeSpec := { name := "ratMakes", fn := fun _ => fun
  | [d1, d2] => { results := [.lit (.bool false)], args := [d1, d2] }
  | _ => none }
def RatMakesWrongFalsely : Prop := ratMakesRow.holds Try.pinned (OpenSpec.ofChange ratMakesWrong)

/-- 'cutwaterlaw03.RatSmall': WHATEVER THE INPUT: true; the input reads as it did. -/
def ratSmallSpec : ChangeSpec := { name := "ratSmall", fn := fun _ => fun
  | [d1, d2] => { results := [.lit (.bool true)], args := [d1, d2] }
  | _ => none }
def ratSmallRow : OpenClaim := { program := "ytdmjgjcljbogiaa", sum := "ff6714cfab676a637f8f91e7aaf6f0a063a404ea950c7d0e3fa9621d6781354f", func := "cutwater/cutwaterlaw03.RatSmall", spec := "ratSmall", inPlace := ["math/bits.Add64", "math/bits.Sub64"], recurses := true, named := ["math/bits.divideError", "math/bits.overflowError"], apart := false }
def RatSmallSaid : Prop := ratSmallRow.holds Try.pinned (OpenSpec.ofChange ratSmallSpec)

/-- ITS FALSE NEIGHBOUR: 'it returns false'. Refute it at one input. -/
def ratSmallWrong : ChangeSpec := { name := "ratSmall", fn := fun _ => fun
  | [d1, d2] => { results := [.lit (.bool false)], args := [d1, d2] }
  | _ => none }
def RatSmallWrongFalsely : Prop := ratSmallRow.holds Try.pinned (OpenSpec.ofChange ratSmallWrong)

/-- 'cutwaterlaw03.RatRounds': WHATEVER THE INPUT: true; the input reads as it did. -/
def ratRoundsSpec : ChangeSpec := { name := "ratRounds", fn := fun _ => fun
  | [d] => { results := [.lit (.bool true)], args := [d] }
  | _ => none }
def ratRoundsRow : OpenClaim := { program := "ytdmjgjcljbogiaa", sum := "ff6714cfab676a637f8f91e7aaf6f0a063a404ea950c7d0e3fa9621d6781354f", func := "cutwater/cutwaterlaw03.RatRounds", spec := "ratRounds", inPlace := ["math/bits.Add64", "math/bits.Sub64"], recurses := true, named := ["math/bits.divideError", "math/bits.overflowError"], apart := false }
def RatRoundsSaid : Prop := ratRoundsRow.holds Try.pinned (OpenSpec.ofChange ratRoundsSpec)

/-- ITS FALSE NEIGHBOUR: 'it returns false'. Refute it at one input. -/
def ratRoundsWrong : ChangeSpec := { name := "ratRounds", fn := fun _ => fun
  | [d] => { results := [.lit (.bool false)], args := [d] }
  | _ => none }
def RatRoundsWrongFalsely : Prop := ratRoundsRow.holds Try.pinned (OpenSpec.ofChange ratRoundsWrong)

/-- 'cutwaterlaw03.RatQuotients': WHATEVER THE INPUT: true; the input reads as it did. -/
def ratQuotientsSpec : ChangeSpec := { name := "ratQuotients", fn := fun _ => fun
  | [d1, d2] => { results := [.lit (.bool true)], args := [d1, d2] }
  | _ => none }
def ratQuotientsRow : OpenClaim := { program := "ytdmjgjcljbogiaa", sum := "ff6714cfab676a637f8f91e7aaf6f0a063a404ea950c7d0e3fa9621d6781354f", func := "cutwater/cutwaterlaw03.RatQuotients", spec := "ratQuotients", inPlace := ["math/bits.Add64", "math/bits.Sub64"], recurses := true, named := ["math/bits.divideError", "math/bits.overflowError"], apart := false }
def RatQuotientsSaid : Prop := ratQuotientsRow.holds Try.pinned (OpenSpec.ofChange ratQuotientsSpec)

/-- ITS FALSE NEIGHBOUR: 'it returns false'. Refute it at one input. -/
def ratQuotientsWrong : ChangeSpec := { name := "ratQuotients", fn := fun _ => fun
  | [d1, d2] => { results := [.lit (.bool false)], args := [d1, d2] }
  | _ => none }
def RatQuotientsWrongFalsely : Prop := ratQuotientsRow.holds Try.pinned (OpenSpec.ofChange ratQuotientsWrong)

/-- 'cutwaterlaw03.RatSums': WHATEVER THE INPUT: true; the input reads as it did. -/
def ratSumsSpec : ChangeSpec := { name := "ratSums", fn := fun _ => fun
  | [d1, d2] => { results := [.lit (.bool true)], args := [d1, d2] }
  | _ => none }
def ratSumsRow : OpenClaim := { program := "ytdmjgjcljbogiaa", sum := "ff6714cfab676a637f8f91e7aaf6f0a063a404ea950c7d0e3fa9621d6781354f", func := "cutwater/cutwaterlaw03.RatSums", spec := "ratSums", inPlace := ["math/bits.Add64", "math/bits.Sub64"], recurses := true, named := ["math/bits.divideError", "math/bits.overflowError"], apart := false }
def RatSumsSaid : Prop := ratSumsRow.holds Try.pinned (OpenSpec.ofChange ratSumsSpec)

/-- ITS FALSE NEIGHBOUR: 'it returns false'. Refute it at one input. -/
def ratSumsWrong : ChangeSpec := { name := "ratSums", fn := fun _ => fun
  | [d1, d2] => { results := [.lit (.bool false)], args := [d1, d2] }
  | _ => none }
def RatSumsWrongFalsely : Prop := ratSumsRow.holds Try.pinned (OpenSpec.ofChange ratSumsWrong)

/-- 'cutwaterlaw03.RatField': WHATEVER THE INPUT: true; the input reads as it did. -/
def ratFieldSpec : ChangeSpec := { name := "ratField", fn := fun _ => fun
  | [d1, d2, d3] => { results := [.lit (.bool true)], args := [d1, d2, d3] }
  | _ => none }
def ratFieldRow : OpenClaim := { program := "ytdmjgjcljbogiaa", sum := "ff6714cfab676a637f8f91e7aaf6f0a063a404ea950c7d0e3fa9621d6781354f", func := "cutwater/cutwaterlaw03.RatField", spec := "ratField", inPlace := ["math/bits.Add64", "math/bits.Sub64"], recurses := true, named := ["math/bits.divideError", "math/bits.overflowError"], apart := false }
def RatFieldSaid : Prop := ratFieldRow.holds Try.pinned (OpenSpec.ofChange ratFieldSpec)

/-- ITS FALSE NEIGHBOUR: 'it returns false'. Refute it at one input. -/
def ratFieldWrong : ChangeSpec := { name := "ratField", fn := fun _ => fun
  | [d1, d2, d3] => { results := [.lit (.bool false)], args := [d1, d2, d3] }
  | _ => none }
def RatFieldWrongFalsely : Prop := ratFieldRow.holds Try.pinned (OpenSpec.ofChange ratFieldWrong)

/-- 'cutwaterlaw06.MatGroups': WHATEVER THE INPUT: true; the input reads as it did. -/
def matGroupsSpec : ChangeSpec := { name := "matGroups", fn := fun _ => fun
  | [d1, d2, d3] => { results := [.lit (.bool true)], args := [d1, d2, d3] }
  | _ => none }
def matGroupsRow : OpenClaim := { program := "ytdmjgjcljbogiaa", sum := "ff6714cfab676a637f8f91e7aaf6f0a063a404ea950c7d0e3fa9621d6781354f", func := "cutwater/cutwaterlaw06.MatGroups", spec := "matGroups", inPlace := ["math/bits.Add64", "math/bits.Sub64"], unfollowed := true, recurses := true, named := ["math/bits.divideError", "math/bits.overflowError"], apart := false }
def MatGroupsSaid : Prop := matGroupsRow.holds Try.pinned (OpenSpec.ofChange matGroupsSpec)

/-- ITS FALSE NEIGHBOUR: 'it returns false'. Refute it at one input. -/
def matGroupsWrong : ChangeSpec := { name := "matGroups", fn := fun _ => fun
  | [d1, d2, d3] => { results := [.lit (.bool false)], args := [d1, d2, d3] }
  | _ => none }
def MatGroupsWrongFalsely : Prop := matGroupsRow.holds Try.pinned (OpenSpec.ofChange matGroupsWrong)

/- THE SECOND FORM. 'bulk': how many values and letters a reading holds, each counted each time it is reached (what is shared counts as often as it is met; a slice's spare places count too). A statement '..UptoSaid' is the law's where the arguments, and the package variables that the reading takes, are together of bulk at most 1048576: NARROWER than '..Said'. Prove '..Said' where nothing that the law and all that it calls make is longer than what came in: it says more and counts as full. Else prove '..UptoSaid'. A law counts once. -/
mutual
def uptoBulk {H : Type} : DataW H → Nat
  | .lit (.string bytes) => bytes.length + 1
  | .lit _ => 1
  | .nil => 1
  | .ptr d => uptoBulk d + 1
  | .slice elems spare => uptoBulkAll elems + uptoBulkAll spare + 1
  | .agg parts => uptoBulkAll parts + 1
  | .iface _ d => uptoBulk d + 1
  | .map entries => uptoBulkEntries entries + 1
  | .held _ => 1
def uptoBulkAll {H : Type} : List (DataW H) → Nat
  | [] => 0
  | d :: r => uptoBulk d + uptoBulkAll r
def uptoBulkEntries {H : Type} : List (Lit × DataW H) → Nat
  | [] => 0
  | x :: r => uptoBulkEntry x + uptoBulkEntries r
def uptoBulkEntry {H : Type} : Lit × DataW H → Nat
  | (.string bytes, d) => bytes.length + uptoBulk d + 1
  | (_, d) => uptoBulk d + 1
 end
def uptoSmall : (H : Type) → List (DataW H) → Bool := fun _ ds => decide (uptoBulkAll ds ≤ 1048576)
def OpenSpec.upto (s : _root_.Go.ChangeSpec) : _root_.Go.OpenSpec := { _root_.Go.OpenSpec.ofChange s with cond := some uptoSmall }

/-- 'cutwaterlaw03.RatMakes', WHERE WHAT IT READS IS OF BULK AT MOST 1048576: true; the input reads as it did. -/
def ratMakesUptoRow : OpenClaim := { program := "ytdmjgjcljbogiaa", sum := "ff6714cfab676a637f8f91e7aaf6f0a063a404ea950c7d0e3fa9621d6781354f", func := "cutwater/cutwaterlaw03.RatMakes", spec := "ratMakes", inPlace := ["math/bits.Add64", "math/bits.Sub64"], recurses := true, named := ["math/bits.divideError", "math/bits.overflowError"], apart := false, narrowed := true }
def RatMakesUptoSaid : Prop := ratMakesUptoRow.holds Try.pinned (OpenSpec.upto ratMakesSpec)

/-- 'cutwaterlaw03.RatSmall', WHERE WHAT IT READS IS OF BULK AT MOST 1048576: true; the input reads as it did. -/
def ratSmallUptoRow : OpenClaim := { program := "ytdmjgjcljbogiaa", sum := "ff6714cfab676a637f8f91e7aaf6f0a063a404ea950c7d0e3fa9621d6781354f", func := "cutwater/cutwaterlaw03.RatSmall", spec := "ratSmall", inPlace := ["math/bits.Add64", "math/bits.Sub64"], recurses := true, named := ["math/bits.divideError", "math/bits.overflowError"], apart := false, narrowed := true }
def RatSmallUptoSaid : Prop := ratSmallUptoRow.holds Try.pinned (OpenSpec.upto ratSmallSpec)

/-- 'cutwaterlaw03.RatRounds', WHERE WHAT IT READS IS OF BULK AT MOST 1048576: true; the input reads as it did. -/
def ratRoundsUptoRow : OpenClaim := { program := "ytdmjgjcljbogiaa", sum := "ff6714cfab676a637f8f91e7aaf6f0a063a404ea950c7d0e3fa9621d6781354f", func := "cutwater/cutwaterlaw03.RatRounds", spec := "ratRounds", inPlace := ["math/bits.Add64", "math/bits.Sub64"], recurses := true, named := ["math/bits.divideError", "math/bits.overflowError"], apart := false, narrowed := true }
def RatRoundsUptoSaid : Prop := ratRoundsUptoRow.holds Try.pinned (OpenSpec.upto ratRoundsSpec)

/-- 'cutwaterlaw03.RatQuotients', WHERE WHAT IT READS IS OF BULK AT MOST 1048576: true; the input reads as it did. -/
def ratQuotientsUptoRow : OpenClaim := { program := "ytdmjgjcljbogiaa", sum := "ff6714cfab676a637f8f91e7aaf6f0a063a404ea950c7d0e3fa9621d6781354f", func := "cutwater/cutwaterlaw03.RatQuotients", spec := "ratQuotients", inPlace := ["math/bits.Add64", "math/bits.Sub64"], recurses := true, named := ["math/bits.divideError", "math/bits.overflowError"], apart := false, narrowed := true }
def RatQuotientsUptoSaid : Prop := ratQuotientsUptoRow.holds Try.pinned (OpenSpec.upto ratQuotientsSpec)

/-- 'cutwaterlaw03.RatSums', WHERE WHAT IT READS IS OF BULK AT MOST 1048576: true; the input reads as it did. -/
def ratSumsUptoRow : OpenClaim := { program := "ytdmjgjcljbogiaa", sum := "ff6714cfab676a637f8f91e7aaf6f0a063a404ea950c7d0e3fa9621d6781354f", func := "cutwater/cutwaterlaw03.RatSums", spec := "ratSums", inPlace := ["math/bits.Add64", "math/bits.Sub64"], recurses := true, named := ["math/bits.divideError", "math/bits.overflowError"], apart := false, narrowed := true }
def RatSumsUptoSaid : Prop := ratSumsUptoRow.holds Try.pinned (OpenSpec.upto ratSumsSpec)

/-- 'cutwaterlaw03.RatField', WHERE WHAT IT READS IS OF BULK AT MOST 1048576: true; the input reads as it did. -/
def ratFieldUptoRow : OpenClaim := { program := "ytdmjgjcljbogiaa", sum := "ff6714cfab676a637f8f91e7aaf6f0a063a404ea950c7d0e3fa9621d6781354f", func := "cutwater/cutwaterlaw03.RatField", spec := "ratField", inPlace := ["math/bits.Add64", "math/bits.Sub64"], recurses := true, named := ["math/bits.divideError", "math/bits.overflowError"], apart := false, narrowed := true }
def RatFieldUptoSaid : Prop := ratFieldUptoRow.holds Try.pinned (OpenSpec.upto ratFieldSpec)

/-- 'cutwaterlaw06.MatGroups', WHERE WHAT IT READS IS OF BULK AT MOST 1048576: true; the input reads as it did. -/
def matGroupsUptoRow : OpenClaim := { program := "ytdmjgjcljbogiaa", sum := "ff6714cfab676a637f8f91e7aaf6f0a063a404ea950c7d0e3fa9621d6781354f", func := "cutwater/cutwaterlaw06.MatGroups", spec := "matGroups", inPlace := ["math/bits.Add64", "math/bits.Sub64"], unfollowed := true, recurses := true, named := ["math/bits.divideError", "math/bits.overflowError"], apart := false, narrowed := true }
def MatGroupsUptoSaid : Prop := matGroupsUptoRow.holds Try.pinned (OpenSpec.upto matGroupsSpec)

end Rows
end Go.Proofs.Ytdmjgjcljbogiaa
