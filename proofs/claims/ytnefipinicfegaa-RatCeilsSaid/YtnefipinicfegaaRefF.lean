/-
  The document's numbers: the greatest common divisor; numbers told by words.
-/
import Derived.Test.YtnefipinicfegaaRefE
namespace Go.Proofs.Ytnefipinicfegaa
open Go.RowKit
set_option linter.unusedVariables false
set_option linter.unusedSimpArgs false

/-- The number that a slice of places tells. -/
def numD (w : World) (v : Value) : Nat :=
  match v with
  | .slice (some a) n _ => val TK ((List.range n).map fun i => match w.cell? (a.add i) with | some (.int _ z) => z.toNat | _ => 0)
  | _ => 0
set_option maxRecDepth 100000 in
set_option maxHeartbeats 1000000 in
theorem numD_of {w : World} {v : Value} {n : Nat} (h : IsC .i64 TK w v n) : numD w v = n := by
  obtain ⟨ad, cap, rfl, _, _, hr⟩ := h
  rcases Nat.eq_zero_or_pos (dg TK n).length with h0 | h0
  · have hn : n = 0 := (dg_eq_nil TK_gt).1 (List.eq_nil_of_length_eq_zero h0)
    rw [h0]
    subst hn
    cases ad <;> simp [numD, val]
  · obtain ⟨b, off, rfl, hc⟩ := hr.at (by rw [vals_length]; exact h0)
    have e : ((List.range (dg TK n).length).map fun i => match w.cell? ((⟨b, off, none⟩ : Addr).add i) with | some (.int _ z) => z.toNat | _ => 0) = dg TK n := by
      refine List.ext_getElem (by simp) fun i h1 h2 => ?_
      have := hc i _ (vals_get .i64 (dg TK n) i h2)
      simp only [List.getElem_map, List.getElem_range]
      have e2 : (⟨b, off, none⟩ : Addr).add i = ⟨b, off + i, none⟩ := by unfold Addr.add; split <;> simp_all
      rw [e2, this]
      simp
    show val TK _ = n
    rw [e, dg_val TK_gt]
set_option maxRecDepth 100000 in
set_option maxHeartbeats 1000000 in
theorem szT_zero {n : Nat} : sz TK n = 0 ↔ n = 0 := by
  constructor
  · intro h; exact (dg_eq_nil TK_gt).1 (List.eq_nil_of_length_eq_zero h)
  · rintro rfl; rfl

set_option maxRecDepth 100000 in
set_option maxHeartbeats 1000000 in
/-- ref01.Gcd. -/
theorem rgcd01_calls (v u : Value) (x y : Nat) (w : World) (hv : IsN .i64 TK w v x) (hu : IsN .i64 TK w u y) (hsx : sz TK x ≤ 68719476736) (hsy : sz TK y ≤ 68719476736) :
    Calls Try.prog 91 #[v, u] w fun e w' => ∃ v', e = .returned v' ∧ FrN 3 .i64 TK w.heap.size w' v' (Nat.gcd x y) ∧ Ext w w' := by
  go_enter Try.func91, Try.ntmps91
  go_wp2_with fail
  refine (rtrim_calls v x w hv).mono ?_
  rintro e w1 ⟨va, rfl, ha, hext⟩
  go_wp2_with fail
  refine (rtrim_calls u y w1 (hu.ext hext)).mono ?_
  rintro e w2 ⟨vb, rfl, hb, hext2⟩
  have ha2 := ha.ext hext2
  have hb2 := FrN.mono hb hext.size
  clear ha hb
  go_wp2_with fail
  go_loopw [5, 6] (fun s5 s6 wr => ∃ a b, FrN 3 .i64 TK w.heap.size wr s5 a ∧ FrN 3 .i64 TK w.heap.size wr s6 b ∧ Nat.gcd a b = Nat.gcd x y ∧ sz TK a ≤ 68719476736 ∧ sz TK b ≤ 68719476736 ∧ Ext w wr) (fun _ s6 wr => numD wr s6)
  case atStart => exact ⟨x, y, ha2, hb2, rfl, hsx, hsy, hext.trans hext2⟩
  case round =>
    obtain ⟨a, b, ia, ib, hg, sa, sb, hex⟩ := hrel
    obtain ⟨adb, capb, rfl⟩ := ib.slice
    rcases Nat.eq_zero_or_pos b with h0 | h0
    · subst h0
      have hz : sz TK 0 = 0 := rfl
      rw [hz] at *
      go_wp2
      go_ret
      refine ⟨_, rfl, ?_, hex⟩
      rw [← hg, Nat.gcd_zero_right]
      exact ia
    · have hs0 : 0 < sz TK b := by
        have : sz TK b ≠ 0 := fun e => by have := szT_zero.1 e; omega
        omega
      go_wp2_with fail
      refine (rdm01_calls _ _ a b _ (ia.isC.isN TK_gt (by (first | rw [LIM_eq] | rw [LIM_eqT]); omega)) (ib.isC.isN TK_gt (by (first | rw [LIM_eq] | rw [LIM_eqT]); omega)) h0 sb).mono ?_
      rintro e w3 ⟨vq, vr, rfl, hq, hr, hext3⟩
      go_wp2
      go_roundw
      case rel =>
        refine ⟨b, a % b, ib.ext hext3, FrN.mono hr hex.size, ?_, sb, ?_, hex.trans hext3⟩
        · rw [← hg, Nat.gcd_comm b, ← Nat.gcd_rec, Nat.gcd_comm]
        · exact Nat.le_trans (dg_len_mono TK_gt (Nat.le_of_lt (Nat.mod_lt _ h0))) sb
      case measure =>
        rw [numD_of hr.isC, numD_of ib.isC]
        exact Nat.mod_lt _ h0
end Go.Proofs.Ytnefipinicfegaa
