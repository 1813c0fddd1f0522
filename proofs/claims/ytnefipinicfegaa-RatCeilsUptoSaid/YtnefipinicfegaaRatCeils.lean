/-
  PROVED HERE: the law RatCeils of the package cutwaterlaw03 returns true for every fraction, in any form, of bulk at most 1048576, and leaves what was there as it was.
  Conditions: none beyond those of the given row.
-/
import Derived.Test.YtnefipinicfegaaRows
import Derived.Test.YtnefipinicfegaaCeilL
import Derived.WalkKit
import Derived.ProofKit
import Derived.OpenShut
import Derived.JoinedCond
import Derived.Test.YtnefipinicfegaaUpto
namespace Go.Proofs.Ytnefipinicfegaa.ratCeils
open Go.ChangeShapes Go.WideShapes Go.ChangeAt Go.RowKit
set_option linter.unusedVariables false
set_option linter.unusedSimpArgs false

theorem own : ownKnob Try.prog.godebug = none := by kernel_rfl
theorem laid : laidOutB Try.prog = true := by kernel_rfl
theorem rowsRat : Try.prog.readableRec 28 = true ∧ 28 < Try.prog.types.size := ⟨by kernel_rfl, by decide +kernel⟩

set_option maxRecDepth 100000 in
theorem lifted (os : Os) (started : os.Started) (H : Type) (enc : TypeId × Value → H) (F : Stop.Interp) :
    ReturnsInHanded {} Try.checked os 8 .any ((Rows.OpenSpec.upto Rows.ratCeilsSpec).pre6 enc Try.prog Try.f8 Rows.ratCeilsUptoRow.domain false) (((Rows.OpenSpec.upto Rows.ratCeilsSpec).at F).post enc Try.prog Try.f8 false true false false) := by
  refine returnsInHanded_of_cond (C := Try.checked) (s := Rows.OpenSpec.upto Rows.ratCeilsSpec) (k := Rows.uptoSmall) rfl own started (by kernel_rfl) Try.func8
    (OpenSpec.witness (enc := enc) (C := Try.checked) (s := Rows.OpenSpec.upto Rows.ratCeilsSpec) (k := Rows.uptoSmall) rfl false ⟨#[], #[.agg #[.bool false, .slice none 0 0, .slice none 0 0]], []⟩ 8 (by kernel_rfl) (by kernel_rfl) (by kernel_rfl)
      (x := ([.agg [.agg [.lit (.bool false), .nil], .nil]], [], [])) (by kernel_rfl) rfl (by kernel_rfl)) ?_
  intro W base args ds gs before hval0 hW hcnd hk _
  have hval : ∀ (j : Nat) t v, Try.f8.params[j]? = some t → args[j]? = some v → Value.okWide Try.prog W .any base t v := hval0
  have hW' := hW
  have hlt := hW.lt
  obtain ⟨p, q, hA0, hV, rfl, hfz, hnd⟩ := hW
  have hA : DataW.TrodAll enc Try.prog W 0 (fun _ => true) true Try.f8.params.toList args.toList ds p := hA0
  rw [Try.params8] at hA hval
  have hA2 := hA
  obtain ⟨v0, vs0, d0, ds0, p0, q0, hargs, rfl, rfl, h0, r0⟩ := trodAll_cons hA
  obtain ⟨rfl, rfl, rfl⟩ := trodAll_nil r0
  obtain rfl : args = #[v0] := by cases args; simp_all
  obtain ⟨rfl, rfl⟩ := trodVars_none hV
  obtain ⟨b0, xs0, ys0, R0, dx0, dy0, B0, U0⟩ := open_ratS (hval 0 28 v0 rfl rfl) h0
  have hbk : Rows.uptoBulkAll [d0] ≤ 1048576 := of_decide_eq_true hk
  have L0 := bulkRat U0
  simp only [Rows.uptoBulkAll] at hbk
  have hA3 : DataW.TrodAll enc Try.prog W 0 (fun _ => true) true [28] [v0] [d0] (p0) := by simpa using hA2
  clear hA0 hval0
  simp only [List.append_nil] at hW' hlt
  refine (ratCeils_calls v0 b0 xs0 ys0 W R0 dx0 dy0 (by omega) (by omega)).mono fun e W' ⟨he, hE⟩ => ?_
  subst he
  exact ⟨_, rfl, post_of_ext (s := Rows.ratCeilsSpec) (pa := p0) (pv := []) hW' (fun _ _ _ => (trodAll_cons_mk (shut_bool Try.underlying4 _) trodAll_mk0))
    (fun sp hsp => trodAll_ext (ts := [28]) laid hE sp (fun t ht => by simp only [List.mem_cons, List.not_mem_nil, or_false, or_self] at ht; subst ht; exact rowsRat) hA3 hlt hsp) (fun _ _ => rfl) (by simp)
    hE (ok_one (by kernel_rfl) rfl (okWide_bool_mk Try.underlying4 _))⟩

theorem over : Rows.ratCeilsUptoRow.holds Try.pinned (Rows.OpenSpec.upto Rows.ratCeilsSpec) :=
  OpenClaim.holds_of_cond 8 Try.f8 rfl rfl rfl rfl rfl rfl rfl ⟨rfl, rfl, rfl, rfl, rfl⟩ rfl rfl rfl rfl rfl (by kernel_rfl) Try.func8 (by kernel_rfl)
    (of_decide_eq_true (by kernel_rfl)) (by unfold Func.isWrapper; first | (rw [if_pos (by decide +kernel)]; kernel_rfl) | (rw [if_neg (by decide +kernel)]; exact ⟨rfl, rfl⟩))
    (fun os started H enc _ F => lifted os started H enc F)

/-- THE STATEMENT -/
theorem proved : Rows.RatCeilsUptoSaid :=
  over
#print axioms proved
end Go.Proofs.Ytnefipinicfegaa.ratCeils
