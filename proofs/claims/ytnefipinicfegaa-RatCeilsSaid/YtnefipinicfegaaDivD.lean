/-
  nat.guess: the next word of a quotient, perhaps one too great.
-/
import Derived.Test.YtnefipinicfegaaDivC
namespace Go.Proofs.Ytnefipinicfegaa
open Go.RowKit
set_option linter.unusedVariables false
set_option linter.unusedSimpArgs false

theorem guess_top (u2 u1 u0 v1 v0 : Nat) (w : World) (h : v1 ≤ u2) :
    Calls Try.prog 109 #[.int .u64 (u2 : Int), .int .u64 (u1 : Int), .int .u64 (u0 : Int), .int .u64 (v1 : Int), .int .u64 (v0 : Int)] w fun e w' => e = .returned (.int .u64 ((W - 1 : Nat) : Int)) ∧ w = w' := by
  have h2 : (v1 : Int) ≤ (u2 : Int) := by omega
  go_enter Try.func109, Try.ntmps109
  go_wp2_with fail
  go_ret
  exact ⟨by rw [W_eq]; rfl, rfl⟩

theorem mul_words {q v0 r u0 : Nat} (hu : u0 < W) : (q * v0 ≤ W * r + u0) ↔ (q * v0 / W < r ∨ (q * v0 / W = r ∧ q * v0 % W ≤ u0)) := by
  have hW : 0 < W := by rw [W_eq]; omega
  have e := Nat.div_add_mod (q * v0) W
  have hm := Nat.mod_lt (q * v0) hW
  generalize q * v0 / W = hi at *
  generalize q * v0 % W = lo at *
  rw [← e]
  constructor
  · intro h
    rcases Nat.lt_trichotomy hi r with h1 | h1 | h1
    · exact .inl h1
    · subst h1; exact .inr ⟨rfl, by omega⟩
    · have : W * (r + 1) ≤ W * hi := Nat.mul_le_mul_left _ h1
      rw [Nat.mul_add] at this
      omega
  · rintro (h | ⟨rfl, h⟩)
    · have : W * (hi + 1) ≤ W * r := Nat.mul_le_mul_left _ h
      rw [Nat.mul_add] at this
      omega
    · omega

set_option maxHeartbeats 1000000 in
set_option maxRecDepth 100000 in
theorem guess_low (u2 u1 u0 v1 v0 : Nat) (w : World) (h : u2 < v1) (h1 : u1 < W) (h0 : u0 < W) (hv1 : v1 < W) (hv0 : v0 < W) (hn : W ≤ 2 * v1) :
    Calls Try.prog 109 #[.int .u64 (u2 : Int), .int .u64 (u1 : Int), .int .u64 (u0 : Int), .int .u64 (v1 : Int), .int .u64 (v0 : Int)] w fun e w' => e = .returned (.int .u64 ((((u2 * W + u1) * W + u0) / (v1 * W + v0) : Nat) : Int)) ∧ Ext w w' := by
  have h2 : ¬ (v1 : Int) ≤ (u2 : Int) := by omega
  have hU : u2 * W + u1 < v1 * W + v0 := by
    have : (u2 + 1) * W ≤ v1 * W := Nat.mul_le_mul_right _ h
    rw [Nat.add_mul] at this
    omega
  have Q1 := Lib.hid (QInv.start (B := W) (u := u2 * W + u1) (v1 := v1) (v0 := v0) (d := u0) h0 (by rw [W_eq] at *; omega) hn W_gt hv0 hU)
  have hql := quo_lt (B := W) h1 h
  have hrl : (u2 * W + u1) % v1 < W := Nat.lt_trans (Nat.mod_lt _ (by omega)) hv1
  have hdiv := Lib.hid (fun (wx : World) => div64_calls u2 u1 v1 wx h1 hv1 h)
  obtain ⟨U, hUe⟩ : ∃ U, u2 * W + u1 = U := ⟨_, rfl⟩
  rw [hUe] at Q1 hql hrl hdiv hU ⊢
  clear hUe
  generalize U / v1 = q at *
  generalize U % v1 = r at *
  go_enter Try.func109, Try.ntmps109
  go_wp2_with fail
  refine (hdiv.out w).mono ?_
  rintro e w1 ⟨rfl, hext⟩
  go_wp2_with fail
  go_loop [11, 12] (fun a b => ∃ q r : Nat, a = .int .u64 q ∧ b = .int .u64 r ∧ r < W ∧ q < W ∧ Hid (QInv W U v1 v0 u0 q r)) (fun a _ => (intOf a).toNat)
  case atStart => exact ⟨q, r, rfl, rfl, hrl, hql, Q1⟩
  case round =>
    clear Q1 hrl hql hdiv
    obtain ⟨qq, rr, rfl, rfl, hrl, hql, HQ⟩ := hrel
    have hmul := Lib.hid (fun (wx : World) => mul64_calls qq v0 _ _ wx hql hv0 rfl rfl)
    by_cases hc : qq * v0 ≤ W * rr + u0
    · have Hex := Lib.hid (HQ.out.exit hc)
      rw [mul_words h0] at hc
      generalize qq * v0 / W = hi at *
      generalize qq * v0 % W = lo at *
      rcases hc with hc | ⟨hc, hc2⟩
      · go_wp2_with fail
        refine (hmul.out w1).mono ?_
        rintro e w' ⟨rfl, rfl⟩
        go_wp2_with fail
        go_ret
        exact ⟨by rw [← Hex.out]; rfl, hext⟩
      · have HC := Lib.hid hc
        have c1 : ¬ hi < rr := by omega
        have c2 : ((hi : Int) == (rr : Int)) = true := by simp; omega
        clear hc
        go_wp2_with fail
        refine (hmul.out w1).mono ?_
        rintro e w' ⟨rfl, rfl⟩
        go_wp2_with fail
        go_ret
        exact ⟨by rw [← Hex.out]; rfl, hext⟩
    · have hq1 : 1 ≤ qq := QInv.pos (u := U) (v1 := v1) (B := W) (q := qq) (r := rr) (d := u0) (v0 := v0) (by rw [W_eq]; omega) (.inr (by omega))
      have Hs := Lib.hid (HQ.out.step h0 (by rw [W_eq]; omega) hU (.inr (by omega)))
      rw [mul_words h0] at hc
      generalize qq * v0 / W = hi at *
      generalize qq * v0 % W = lo at *
      have c1 : ¬ hi < rr := by omega
      rw [W_eq] at hrl hql hv1
      have c4 : qq < 18446744073709551616 := hql
      by_cases hov : rr + v1 < 18446744073709551616
      · have c5 : ¬ (rr : Int) + (v1 : Int) < (rr : Int) := by omega
        by_cases hh : hi = rr
        · have c2 : ((hi : Int) == (rr : Int)) = true := by simp; omega
          have c3 : ¬ lo ≤ u0 := by omega
          clear hh hc
          go_wp2_with fail
          refine (hmul.out w1).mono ?_
          rintro e w' ⟨rfl, rfl⟩
          go_wp2_with fail
          go_round
          case rel => exact ⟨qq - 1, rr + v1, by go_num, by go_num, by rw [W_eq]; omega, by rw [W_eq]; omega, Hs⟩
          case measure => simp [intOf]; omega
        · have c2 : ((hi : Int) == (rr : Int)) = false := by simp; omega
          clear hh hc
          go_wp2_with fail
          refine (hmul.out w1).mono ?_
          rintro e w' ⟨rfl, rfl⟩
          go_wp2_with fail
          go_round
          case rel => exact ⟨qq - 1, rr + v1, by go_num, by go_num, by rw [W_eq]; omega, by rw [W_eq]; omega, Hs⟩
          case measure => simp [intOf]; omega
      · obtain ⟨z, hz, hz2⟩ : ∃ z : Nat, IntKind.u64.wrap ((rr : Int) + (v1 : Int)) = (z : Int) ∧ z < rr := ⟨rr + v1 - 18446744073709551616, by rw [IntKind.wrap_u64]; omega, by omega⟩
        have Hex := Lib.hid (Hs.out.brk (by rw [W_eq]; omega) hv0 (by rw [W_eq]; omega))
        by_cases hh : hi = rr
        · have c2 : ((hi : Int) == (rr : Int)) = true := by simp; omega
          have c3 : ¬ lo ≤ u0 := by omega
          clear hh hc
          go_wp2_with fail
          refine (hmul.out w1).mono ?_
          rintro e w' ⟨rfl, rfl⟩
          go_wp2_with fail
          go_ret
          refine ⟨ret_int (a := (qq : Int) - 1) ?_, hext⟩
          rw [← Hex.out]; omega
        · have c2 : ((hi : Int) == (rr : Int)) = false := by simp; omega
          clear hh hc
          go_wp2_with fail
          refine (hmul.out w1).mono ?_
          rintro e w' ⟨rfl, rfl⟩
          go_wp2_with fail
          go_ret
          refine ⟨ret_int (a := (qq : Int) - 1) ?_, hext⟩
          rw [← Hex.out]; omega
end Go.Proofs.Ytnefipinicfegaa
