/-
  PROVED HERE: the law RatCeils of the package cutwaterlaw03 returns true for every fraction, in any form, and leaves what was there as it was.
  Conditions: none beyond those of the given row.
-/
import Derived.Test.YtnefipinicfegaaRows
import Derived.Test.YtnefipinicfegaaCeilS
import Derived.WalkKit
import Derived.ProofKit
import Derived.OpenShut
import Derived.SizedLaws
namespace Go.Proofs.Ytnefipinicfegaa.ratCeils
open Go.ChangeShapes Go.WideShapes Go.ChangeAt Go.RowKit
set_option linter.unusedVariables false
set_option linter.unusedSimpArgs false

theorem own : ownKnob Try.prog.godebug = none := by kernel_rfl
theorem laid : laidOutB Try.prog = true := by kernel_rfl
theorem rowsRat : Try.prog.readableRec 28 = true ∧ 28 < Try.prog.types.size := ⟨by kernel_rfl, by decide +kernel⟩

set_option maxRecDepth 100000 in
theorem lifted (os : Os) (started : os.Started) (H : Type) (enc : TypeId × Value → H) :
    ReturnsInHanded {} Try.checked os 8 .any (Rows.ratCeilsSpec.pre6 enc Try.prog Try.f8 Rows.ratCeilsRow.domain false) (Rows.ratCeilsSpec.post enc Try.prog Try.f8 false true false false) := by
  refine returnsInHanded_of_change_sized (C := Try.checked) own started (by kernel_rfl) Try.func8
    (ChangeSpec.witness6 (enc := enc) (C := Try.checked) false ⟨#[], #[.agg #[.bool false, .slice none 0 0, .slice none 0 0]], []⟩ 8 (by kernel_rfl) (by kernel_rfl) (by kernel_rfl) (by kernel_rfl)) ?_
  intro W base args ds gs before hval0 hW hcnd hsz _
  have hval : ∀ (j : Nat) t v, Try.f8.params[j]? = some t → args[j]? = some v → Value.okWide Try.prog W .any base t v := hval0
  have hW' := hW
  have hlt := hW.lt
  obtain ⟨p, q, hA0, hV, rfl, hfz, hnd⟩ := hW
  have hA : DataW.TrodAll enc Try.prog W 0 (fun _ => true) true Try.f8.params.toList args.toList ds p := hA0
  rw [Try.params8] at hA hval
  have hA2 := hA
  obtain ⟨v0, vs0, d0, ds0, p0, q0, hargs, rfl, rfl, h0, r0⟩ := trodAll_cons hA
  obtain ⟨rfl, rfl, rfl⟩ := trodAll_nil r0
  obtain rfl : args = #[v0] := by cases args; simp_all
  obtain ⟨rfl, rfl⟩ := trodVars_none hV
  have hsz2 : (DataW.weightsEach Try.prog [28] [d0]).all (· ≤ reachBytes) = true := hsz
  have hsz' : ∀ n ∈ DataW.weightsEach Try.prog [28] [d0], n ≤ reachBytes := fun n hn => by
    have := List.all_eq_true.1 hsz2 n hn
    simpa using this
  have hreach := reachBytes_lt
  obtain ⟨b0, xs0, ys0, R0, dx0, dy0, B0, U0⟩ := open_ratS (hval 0 28 v0 rfl rfl) h0
  have L0 := B0 reachBytes fun n hn => hsz' n (DataW.weights_mem_each (j := 0) rfl rfl n hn)
  have hA3 : DataW.TrodAll enc Try.prog W 0 (fun _ => true) true [28] [v0] [d0] (p0) := by simpa using hA2
  clear hA0 hval0
  simp only [List.append_nil] at hW' hlt
  refine (ratCeils_calls v0 b0 xs0 ys0 W R0 dx0 dy0 (by unfold reachBytes at *; omega) (by unfold reachBytes at *; omega)).mono fun e W' ⟨he, hE⟩ => ?_
  subst he
  exact ⟨_, rfl, post_of_ext (s := Rows.ratCeilsSpec) (pa := p0) (pv := []) hW' (fun _ _ _ => (trodAll_cons_mk (shut_bool Try.underlying4 _) trodAll_mk0))
    (fun sp hsp => trodAll_ext (ts := [28]) laid hE sp (fun t ht => by simp only [List.mem_cons, List.not_mem_nil, or_false, or_self] at ht; subst ht; exact rowsRat) hA3 hlt hsp) (fun _ _ => rfl) (by simp)
    hE (ok_one (by kernel_rfl) rfl (okWide_bool_mk Try.underlying4 _))⟩

theorem over : Rows.ratCeilsRow.holds Try.pinned (OpenSpec.ofChange Rows.ratCeilsSpec) :=
  OpenClaim.holds_of_wide 8 Try.f8 rfl rfl rfl rfl rfl rfl rfl ⟨rfl, rfl, rfl, rfl, rfl⟩ rfl rfl rfl rfl rfl (by kernel_rfl) Try.func8 (by kernel_rfl)
    (of_decide_eq_true (by kernel_rfl)) (by unfold Func.isWrapper; first | (rw [if_pos (by decide +kernel)]; kernel_rfl) | (rw [if_neg (by decide +kernel)]; exact ⟨rfl, rfl⟩))
    (fun os started H enc _ => lifted os started H enc)

/-- THE STATEMENT -/
theorem proved : Rows.RatCeilsSaid :=
  over
#print axioms proved
end Go.Proofs.Ytnefipinicfegaa.ratCeils
