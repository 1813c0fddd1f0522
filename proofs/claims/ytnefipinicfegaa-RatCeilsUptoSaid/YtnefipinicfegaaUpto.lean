/-
  What an argument's bulk says of how many words it has.
-/
import Derived.Test.YtnefipinicfegaaRows
import Derived.Test.YtnefipinicfegaaLawT
namespace Go.Proofs.Ytnefipinicfegaa
open Go.RowKit
set_option linter.unusedVariables false
set_option linter.unusedSimpArgs false

theorem bulk_one {H : Type} (d : DataW H) : 1 ≤ Rows.uptoBulk d := by
  cases d with
  | lit l => cases l <;> simp [Rows.uptoBulk]
  | nil => simp [Rows.uptoBulk]
  | ptr d => simp [Rows.uptoBulk]
  | slice elems spare => simp [Rows.uptoBulk]
  | agg parts => simp [Rows.uptoBulk]
  | iface t d => simp [Rows.uptoBulk]
  | map entries => simp [Rows.uptoBulk]
  | held h => simp [Rows.uptoBulk]
theorem bulk_length {H : Type} (l : List (DataW H)) : l.length ≤ Rows.uptoBulkAll l := by
  induction l with
  | nil => simp [Rows.uptoBulkAll]
  | cons x r ih => have := bulk_one x; simp only [Rows.uptoBulkAll, List.length_cons]; omega
theorem bulkWords {H : Type} {d : DataW H} {n : Nat} (h : wordsIn d n) : n ≤ Rows.uptoBulk d := by
  rcases h with ⟨_, rfl⟩ | ⟨es, rs, rfl, rfl⟩
  · omega
  · have := bulk_length es
    simp only [Rows.uptoBulk]
    omega
theorem bulkInt {H : Type} {d : DataW H} {n : Nat} (h : wordsI d n) : n ≤ Rows.uptoBulk d := by
  obtain ⟨d0, d1, rfl, h1⟩ := h
  have := bulkWords h1
  simp only [Rows.uptoBulk, Rows.uptoBulkAll]
  omega
theorem bulkRat {H : Type} {d : DataW H} {n m : Nat} (h : wordsQ d n m) : n + m ≤ Rows.uptoBulk d := by
  obtain ⟨d0, d1, rfl, h1, h2⟩ := h
  have := bulkInt h1
  have := bulkWords h2
  simp only [Rows.uptoBulk, Rows.uptoBulkAll]
  omega
end Go.Proofs.Ytnefipinicfegaa
