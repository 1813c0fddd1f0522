/-
  nat.DivMod, whole, and nat.Gcd, walked.
-/
import Derived.Test.YtnefipinicfegaaDivI
namespace Go.Proofs.Ytnefipinicfegaa
open Go.RowKit
set_option linter.unusedVariables false
set_option linter.unusedSimpArgs false

theorem sz_zero {n : Nat} : sz W n = 0 ↔ n = 0 := by
  constructor
  · intro h; exact (dg_eq_nil W_gt).1 (List.eq_nil_of_length_eq_zero h)
  · rintro rfl; rfl

/-- nat.DivMod. -/
theorem divmod_calls (v u : Value) (x y : Nat) (w : World) (hv : IsN .u64 W w v x) (hu : IsN .u64 W w u y) (hy : 0 < y) (hsx : sz W x ≤ 17592186044096) :
    Calls Try.prog 86 #[v, u] w fun e w' => ∃ vq vr, e = .returned (.tuple #[vq, vr, .int .i64 0]) ∧ FrN 79 .u64 W w.heap.size w' vq (x / y) ∧ FrN 79 .u64 W w.heap.size w' vr (x % y) ∧ Ext w w' := by
  rcases Nat.lt_or_ge x y with h | h
  · exact divmod_less v u x y w hv hu hy h
  · have h0 : sz W y ≠ 0 := fun e => by have := sz_zero.1 e; omega
    by_cases h1 : sz W y = 1
    · exact divmod_word v u x y w hv hu hy h h1
    · exact divmod_long v u x y w hv hu hy h (by omega) hsx

/-- The number that a slice tells. -/
def numOf (w : World) (v : Value) : Nat :=
  match v with
  | .slice (some a) n _ => val W ((List.range n).map fun i => match w.cell? (a.add i) with | some (.int _ z) => z.toNat | _ => 0)
  | _ => 0
theorem numOf_of {w : World} {v : Value} {n : Nat} (h : IsC .u64 W w v n) : numOf w v = n := by
  obtain ⟨ad, cap, rfl, _, _, hr⟩ := h
  rcases Nat.eq_zero_or_pos (dg W n).length with h0 | h0
  · have hn : n = 0 := (dg_eq_nil W_gt).1 (List.eq_nil_of_length_eq_zero h0)
    rw [h0]
    subst hn
    cases ad <;> simp [numOf, val]
  · obtain ⟨b, off, rfl, hc⟩ := hr.at (by rw [vals_length]; exact h0)
    have e : ((List.range (dg W n).length).map fun i => match w.cell? ((⟨b, off, none⟩ : Addr).add i) with | some (.int _ z) => z.toNat | _ => 0) = dg W n := by
      refine List.ext_getElem (by simp) fun i h1 h2 => ?_
      have := hc i _ (vals_get .u64 (dg W n) i h2)
      simp only [List.getElem_map, List.getElem_range]
      have e2 : (⟨b, off, none⟩ : Addr).add i = ⟨b, off + i, none⟩ := by unfold Addr.add; split <;> simp_all
      rw [e2, this]
      simp
    show val W _ = n
    rw [e, dg_val W_gt]

theorem isC_zero {w : World} {v : Value} {n : Nat} (h : IsC .u64 W w v n) : ∃ ad cap, v = .slice ad (sz W n) cap := by
  obtain ⟨ad, cap, rfl, _⟩ := h
  exact ⟨ad, cap, rfl⟩

set_option maxHeartbeats 1000000 in
/-- nat.Gcd. -/
theorem gcd_calls (v u : Value) (x y : Nat) (w : World) (hv : IsN .u64 W w v x) (hu : IsN .u64 W w u y) (hsx : sz W x ≤ 17592186044096) (hsy : sz W y ≤ 17592186044096) :
    Calls Try.prog 85 #[v, u] w fun e w' => ∃ v', e = .returned v' ∧ FrN 79 .u64 W w.heap.size w' v' (Nat.gcd x y) ∧ Ext w w' := by
  go_enter Try.func85, Try.ntmps85
  go_wp2_with fail
  refine (trim_calls v x w hv).mono ?_
  rintro e w1 ⟨va, rfl, ha, hext⟩
  go_wp2_with fail
  refine (trim_calls u y w1 (hu.ext hext)).mono ?_
  rintro e w2 ⟨vb, rfl, hb, hext2⟩
  have ha2 := ha.ext hext2
  have hb2 := FrN.mono hb hext.size
  clear ha hb
  go_wp2_with fail
  go_loopw [5, 6] (fun s5 s6 wr => ∃ a b, FrN 79 .u64 W w.heap.size wr s5 a ∧ FrN 79 .u64 W w.heap.size wr s6 b ∧ Nat.gcd a b = Nat.gcd x y ∧ sz W a ≤ 17592186044096 ∧ sz W b ≤ 17592186044096 ∧ Ext w wr) (fun _ s6 wr => numOf wr s6)
  case atStart => exact ⟨x, y, ha2, hb2, rfl, hsx, hsy, hext.trans hext2⟩
  case round =>
    obtain ⟨a, b, ia, ib, hg, sa, sb, hex⟩ := hrel
    obtain ⟨adb, capb, rfl⟩ := isC_zero ib.isC
    rcases Nat.eq_zero_or_pos b with h0 | h0
    · subst h0
      have hz : sz W 0 = 0 := rfl
      rw [hz] at *
      go_wp2
      go_ret
      refine ⟨_, rfl, ?_, hex⟩
      rw [← hg, Nat.gcd_zero_right]
      exact ia
    · have hs0 : 0 < sz W b := Nat.pos_of_ne_zero fun e => by have := sz_zero.1 e; omega
      go_wp2_with fail
      refine (divmod_calls _ _ a b _ (ia.isC.isN W_gt (by rw [LIM_eq]; omega)) (ib.isC.isN W_gt (by rw [LIM_eq]; omega)) h0 sa).mono ?_
      rintro e w3 ⟨vq, vr, rfl, hq, hr, hext3⟩
      go_wp2
      go_roundw
      case rel =>
        refine ⟨b, a % b, ib.ext hext3, FrN.mono hr hex.size, ?_, sb, ?_, hex.trans hext3⟩
        · rw [← hg, Nat.gcd_comm b, ← Nat.gcd_rec, Nat.gcd_comm]
        · exact Nat.le_trans (dg_len_mono W_gt (Nat.le_of_lt (Nat.mod_lt _ h0))) sb
      case measure =>
        rw [numOf_of hr.isC, numOf_of ib.isC]
        exact Nat.mod_lt _ h0
end Go.Proofs.Ytnefipinicfegaa
