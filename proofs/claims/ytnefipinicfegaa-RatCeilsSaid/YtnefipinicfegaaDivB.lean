/-
  math/bits.Div64: two words divided by a word.
-/
import Derived.Test.YtnefipinicfegaaNatG
import Derived.Test.YtnefipinicfegaaDivA
import Derived.Deep.CutBlock
import Derived.Deep.DeepCutAuto
namespace Go.Proofs.Ytnefipinicfegaa
open Go.RowKit
set_option linter.unusedVariables false
set_option linter.unusedSimpArgs false

theorem W_sq : W = 4294967296 * 4294967296 := by rw [W_eq]
theorem wrap_rest (u d q v r : Nat) (e : q * v + r = u * 4294967296 + d) (hr : r < 18446744073709551616) :
    IntKind.u64.wrap (IntKind.u64.wrap (IntKind.u64.wrap ((u : Int) * 4294967296) + (d : Int)) - IntKind.u64.wrap ((q : Int) * (v : Int))) = (r : Int) := by
  simp only [IntKind.wrap_u64]
  rw [← Int.natCast_mul]
  generalize q * v = z at *
  omega

set_option maxHeartbeats 400000 in
theorem div64_zero (lo y : Nat) (w : World) (hlo : lo < W) (hy : 0 < y) (hyW : y < W) :
    Calls Try.prog 115 #[.int .u64 0, .int .u64 (lo : Int), .int .u64 (y : Int)] w fun e w' => e = .returned (.tuple #[.int .u64 ((lo / y : Nat) : Int), .int .u64 ((lo % y : Nat) : Int)]) ∧ Ext w w' := by
  have h1 : ((y : Int) == 0) = false := by simp; omega
  have h2 : ¬ (y : Int) ≤ 0 := by omega
  have h3 : ¬ y = 0 := by omega
  rw [W_eq] at hlo hyW
  have h4 : IntKind.u64.wrap ((lo : Int) / (y : Int)) = ((lo / y : Nat) : Int) := by
    have := Nat.div_le_self lo y
    rw [← Int.natCast_ediv]
    generalize lo / y = a at *
    exact IntWalk.u64_in _ (by omega)
  have h5 : (lo : Int) % (y : Int) = ((lo % y : Nat) : Int) := by rw [Int.natCast_emod]
  generalize lo / y = a at *
  generalize lo % y = b at *
  go_enter Try.func115, Try.ntmps115
  go_wp2_with fail
  go_quiet (fail)
  go_wp2_with fail
  go_ret2
  refine ⟨?_, (Ext.refl w).drews _⟩
  show Ending.returned (.tuple #[.int .u64 (a : Int), .int .u64 ((lo : Int) % (y : Int))]) = _
  rw [h5]

set_option maxHeartbeats 2000000 in
set_option maxRecDepth 100000 in
theorem div64_pos (hi lo y : Nat) (w : World) (hlo : lo < W) (hyW : y < W) (hhy : hi < y) (hhi : 0 < hi) :
    Calls Try.prog 115 #[.int .u64 (hi : Int), .int .u64 (lo : Int), .int .u64 (y : Int)] w fun e w' => e = .returned (.tuple #[.int .u64 (((hi * W + lo) / y : Nat) : Int), .int .u64 (((hi * W + lo) % y : Nat) : Int)]) ∧ Ext w w' := by
  have h1 : ((y : Int) == 0) = false := by simp; omega
  have h2 : ¬ (y : Int) ≤ (hi : Int) := by omega
  have h3 : ((hi : Int) == 0) = false := by simp; omega
  rw [W_eq] at hlo hyW
  go_enter Try.func115, Try.ntmps115
  go_wp2_with fail
  refine (Try.bits_LeadingZeros64 _ _ (by omega) (by omega)).mono ?_
  rintro e w' ⟨rfl, hw⟩
  have hw2 := hw.symm
  subst hw2
  clear hw
  rw [Int.toNat_natCast]
  obtain ⟨hb1, hb2, hb3⟩ := Lib.bitLenAux_bounds 64 y (by omega) (by omega)
  have hb4 := Lib.bitLen_le y 64 (Nat.le_refl _) (by omega)
  change 1 ≤ Lib.bitLen y at hb1
  change 2 ^ (Lib.bitLen y - 1) ≤ y at hb2
  change y < 2 ^ Lib.bitLen y at hb3
  obtain ⟨s, hs, hs2⟩ : ∃ s : Nat, (64 : Int) - (Lib.bitLen y : Int) = (s : Int) ∧ s < 64 := ⟨64 - Lib.bitLen y, by omega, by omega⟩
  rw [hs]
  have hp := pow_split s (by omega)
  have hy2 : y * 2 ^ s < W := by
    have e : y * 2 ^ s < 2 ^ Lib.bitLen y * 2 ^ s := Nat.mul_lt_mul_of_pos_right hb3 (Nat.pow_pos (by omega))
    rw [← Nat.pow_add, show Lib.bitLen y + s = 64 by omega] at e
    rw [W_eq]; exact e
  have hyn : 9223372036854775808 ≤ y * 2 ^ s := by
    have e : 2 ^ (Lib.bitLen y - 1) * 2 ^ s ≤ y * 2 ^ s := Nat.mul_le_mul_right _ hb2
    rw [← Nat.pow_add, show Lib.bitLen y - 1 + s = 63 by omega] at e
    exact e
  have hv : IntKind.u64.wrap ((y : Int) * 2 ^ s) = ((y * 2 ^ s : Nat) : Int) := by
    rw [IntKind.wrap_u64]
    have : ((y : Int) * 2 ^ s) = ((y * 2 ^ s : Nat) : Int) := by rw [Int.natCast_mul, Int.natCast_pow]; rfl
    rw [this]; rw [W_eq] at hy2; omega
  have hV0 : ∃ v : Nat, y * 2 ^ s = v := ⟨_, rfl⟩
  obtain ⟨v, hV⟩ := hV0
  rw [hV] at hv hyn hy2
  have HV := Lib.hid hV
  rw [W_eq] at hy2
  clear hV hb1 hb2 hb3 hb4 hs
  have hc : lo / 2 ^ (64 - s) < 2 ^ s := by
    refine Nat.div_lt_of_lt_mul ?_
    rw [← hp, W_eq]; exact hlo
  have hu0 : bits .or .u64 (IntKind.u64.wrap ((hi : Int) * 2 ^ s)) ((lo : Int) / 2 ^ (64 - s)) = ((hi * 2 ^ s + lo / 2 ^ (64 - s) : Nat) : Int) := by
    have e0 : ((lo : Int) / 2 ^ (64 - s)) = ((lo / 2 ^ (64 - s) : Nat) : Int) := by rw [Int.natCast_ediv, Int.natCast_pow]; rfl
    rw [e0, shl_word hi s _ (by omega) hc, Nat.mod_eq_of_lt]
    have : hi * 2 ^ s < y * 2 ^ s := Nat.mul_lt_mul_of_pos_right hhy (Nat.pow_pos (by omega))
    rw [HV.out] at this
    rw [W_eq]; omega
  have hm0 : IntKind.u64.wrap ((lo : Int) * 2 ^ s) = (((lo * 2 ^ s) % W : Nat) : Int) := by
    rw [IntKind.wrap_u64, W_eq]
    have : ((lo : Int) * 2 ^ s) = ((lo * 2 ^ s : Nat) : Int) := by rw [Int.natCast_mul, Int.natCast_pow]; rfl
    rw [this]
    omega
  have hN : (hi * 2 ^ s + lo / 2 ^ (64 - s)) * W + (lo * 2 ^ s) % W = (hi * W + lo) * 2 ^ s := by
    have e := Nat.mod_add_div (lo * 2 ^ s) W
    rw [shl_div _ _ (by omega)] at e
    have e1 : hi * 2 ^ s * W = hi * W * 2 ^ s := by ac_rfl
    have e2 : lo / 2 ^ (64 - s) * W = W * (lo / 2 ^ (64 - s)) := Nat.mul_comm ..
    rw [Nat.add_mul, Nat.add_mul, e1, e2]
    omega
  have huv : hi * 2 ^ s + lo / 2 ^ (64 - s) < v := by
    have : (hi + 1) * 2 ^ s ≤ y * 2 ^ s := Nat.mul_le_mul_right _ hhy
    rw [HV.out, Nat.add_mul] at this
    omega
  have hmlt : (lo * 2 ^ s) % W < 18446744073709551616 := by rw [← W_eq]; exact Nat.mod_lt _ (by rw [W_eq]; omega)
  obtain ⟨u, hu⟩ : ∃ u, hi * 2 ^ s + lo / 2 ^ (64 - s) = u := ⟨_, rfl⟩
  obtain ⟨m, hm⟩ : ∃ m, (lo * 2 ^ s) % W = m := ⟨_, rfl⟩
  rw [hu] at hu0 huv hN
  rw [hm] at hm0 hmlt hN
  have HN := Lib.hid hN
  clear hu hm hN hc hp
  obtain ⟨v1, hv1, hv1e⟩ : ∃ v1 : Nat, (v : Int) / 4294967296 = (v1 : Int) ∧ v1 = v / 4294967296 := ⟨v / 4294967296, by omega, rfl⟩
  obtain ⟨v0, hv0, hv0e⟩ : ∃ v0 : Nat, bits .and .u64 (v : Int) 4294967295 = (v0 : Int) ∧ v0 = v % 4294967296 := ⟨v % 4294967296, by rw [and_low32 _ (by omega) (by omega)]; omega, rfl⟩
  obtain ⟨d1, hd1, hd1e⟩ : ∃ d1 : Nat, (m : Int) / 4294967296 = (d1 : Int) ∧ d1 = m / 4294967296 := ⟨m / 4294967296, by omega, rfl⟩
  obtain ⟨d0, hd0, hd0e⟩ : ∃ d0 : Nat, bits .and .u64 (m : Int) 4294967295 = (d0 : Int) ∧ d0 = m % 4294967296 := ⟨m % 4294967296, by rw [and_low32 _ (by omega) (by omega)]; omega, rfl⟩
  have Hv : Hid (v = v1 * 4294967296 + v0) := by show v = v1 * 4294967296 + v0; omega
  have Hm : Hid (m = d1 * 4294967296 + d0) := by show m = d1 * 4294967296 + d0; omega
  have b1 : v1 < 4294967296 := by omega
  have b2 : 2147483648 ≤ v1 := by omega
  have b3 : v0 < 4294967296 := by omega
  have b4 : d1 < 4294967296 := by omega
  have b5 : d0 < 4294967296 := by omega
  clear hv1e hv0e hd1e hd0e
  have Q1 := QInv.start (B := 4294967296) (u := u) (v1 := v1) (v0 := v0) (d := d1) b4 (by omega) (by omega) (by omega) b3 (by rw [← Hv.out]; exact huv)
  have hq : (u : Int) / (v1 : Int) = ((u / v1 : Nat) : Int) := by rw [Int.natCast_ediv]
  have hr : IntKind.u64.wrap ((u : Int) - IntKind.u64.wrap (((u / v1 : Nat) : Int) * (v1 : Int))) = ((u % v1 : Nat) : Int) := by
    have e := Nat.div_add_mod u v1
    rw [Nat.mul_comm] at e
    rw [IntKind.wrap_u64, IntKind.wrap_u64, ← Int.natCast_mul]
    generalize u / v1 * v1 = qv at *
    omega
  have hrv : u % v1 < v1 := Nat.mod_lt _ (by omega)
  generalize u / v1 = q at *
  generalize u % v1 = r at *
  have hdiv : ¬ v1 = 0 := by omega
  have hq3 := Q1.2.2
  have hqw : IntKind.u64.wrap (q : Int) = (q : Int) := IntWalk.u64_in _ (by omega)
  go_upto_block 0 with fail
  go_cut [15] (fun a wx => ∃ q1 : Nat, w = wx ∧ a = .int .u64 q1 ∧ Hid (q1 = (u * 4294967296 + d1) / (v1 * 4294967296 + v0)))
  case first =>
    go_wp2_with fail
    have HQ := Lib.hid Q1
    clear Q1 hqw hr hq
    go_loop [15, 16] (fun a b => ∃ q r : Nat, a = .int .u64 q ∧ b = .int .u64 r ∧ r < 4294967296 ∧ Hid (QInv 4294967296 u v1 v0 d1 q r)) (fun a _ => (intOf a).toNat)
    case atStart => exact ⟨q, r, rfl, rfl, by omega, HQ⟩
    case round =>
      clear HQ hq3 hrv
      obtain ⟨qq, rr, rfl, rfl, hrB, HQ⟩ := hrel
      have hq3 := HQ.out.2.2
      rcases Nat.lt_or_ge qq 4294967296 with hqB | hqB
      · obtain ⟨pp, p1, p1e⟩ : ∃ pp : Nat, IntKind.u64.wrap ((qq : Int) * (v0 : Int)) = (pp : Int) ∧ qq * v0 = pp := by
          have : qq * v0 ≤ 4294967296 * 4294967296 - 1 := by
            have := Nat.mul_le_mul (show qq ≤ 4294967295 by omega) (show v0 ≤ 4294967295 by omega)
            omega
          refine ⟨qq * v0, ?_, rfl⟩
          rw [← Int.natCast_mul]
          generalize qq * v0 = z at *
          exact IntWalk.u64_in _ (by omega)
        obtain ⟨t2, p2, p2e⟩ : ∃ t2 : Nat, IntKind.u64.wrap (IntKind.u64.wrap (4294967296 * (rr : Int)) + (d1 : Int)) = (t2 : Int) ∧ 4294967296 * rr + d1 = t2 := by
          refine ⟨4294967296 * rr + d1, ?_, rfl⟩
          rw [IntWalk.u64_in (4294967296 * (rr : Int)) (by omega), IntWalk.u64_in _ (by omega)]
          omega
        have i1 : ¬ (4294967296 : Int) ≤ (qq : Int) := by omega
        have i3 : (rr : Int) < 4294967296 := by omega
        have i4 : (v1 : Int) < 4294967296 := by omega
        have i5 : (d1 : Int) < 4294967296 := by omega
        have i6 : (v0 : Int) < 4294967296 := by omega
        have i7 : (qq : Int) < 4294967296 := by omega
        have Hb1 := Lib.hid b1
        have Hb4 := Lib.hid b4
        have Hb3 := Lib.hid b3
        have HrB := Lib.hid hrB
        have Hq3 := Lib.hid hq3
        by_cases hlt : t2 < pp
        · have Hs := Lib.hid (HQ.out.step b4 (by omega) (by rw [← Hv.out]; exact huv) (.inr (by rw [p1e, p2e]; exact hlt)))
          have hq1 : (1 : Int) ≤ (qq : Int) := by
            have := QInv.pos (u := u) (v1 := v1) (B := 4294967296) (q := qq) (r := rr) (d := d1) (v0 := v0) (by omega) (.inr (by rw [p1e, p2e]; exact hlt))
            omega
          have hlt' : (t2 : Int) < (pp : Int) := by omega
          have hlt2 : 4294967296 * (rr : Int) + (d1 : Int) < (pp : Int) := by omega
          clear hqB hq3 b1 b2 b3 b4 b5 hrB huv hyn hy2 hmlt hlo hyW p1e p2e hlt
          by_cases hr2 : (4294967296 : Int) ≤ (rr : Int) + (v1 : Int)
          · go_wp2_with fail
            go_meet
            exact ⟨qq - 1, rfl, by go_num, Hs.out.brk (by have := Hq3.out; omega) Hb3.out (by omega)⟩
          · go_wp2_with fail
            go_round
            case rel => exact ⟨qq - 1, rr + v1, by go_num, by go_num, by omega, Hs⟩
            case measure => simp [intOf]; omega
        · have hlt' : ¬ (t2 : Int) < (pp : Int) := by omega
          have hlt2 : ¬ 4294967296 * (rr : Int) + (d1 : Int) < (pp : Int) := by omega
          have Hex := Lib.hid (HQ.out.exit (by rw [p1e, p2e]; omega))
          clear hqB hq3 b1 b2 b3 b4 b5 hrB huv hyn hy2 hmlt hlo hyW p1e p2e hlt
          go_wp2_with fail
          go_meet
          exact ⟨qq, rfl, rfl, Hex⟩
      · have Hs := Lib.hid (HQ.out.step b4 (by omega) (by rw [← Hv.out]; exact huv) (.inl hqB))
        have Hq := Lib.hid hqB
        have Hq3 := Lib.hid hq3
        have i1 : (4294967296 : Int) ≤ (qq : Int) := by omega
        have i2 : (qq : Int) ≤ 4294967297 := by omega
        have i3 : (rr : Int) < 4294967296 := by omega
        have i4 : (v1 : Int) < 4294967296 := by omega
        have Hb1 := Lib.hid b1
        have Hb4 := Lib.hid b4
        have Hb3 := Lib.hid b3
        have HrB := Lib.hid hrB
        clear hqB hq3 b1 b2 b3 b4 b5 hrB huv hyn hy2 hmlt hlo hyW
        by_cases hr2 : (4294967296 : Int) ≤ (rr : Int) + (v1 : Int)
        · go_wp2_with fail
          go_meet
          exact ⟨qq - 1, rfl, by have := Hq.out; go_num, Hs.out.brk (by have := Hq3.out; omega) Hb3.out (by omega)⟩
        · go_wp2_with fail
          go_round
          case rel => exact ⟨qq - 1, rr + v1, by have := Hq.out; go_num, by go_num, by omega, Hs⟩
          case measure => have := Hq.out; simp [intOf]; omega
  case rest =>
    obtain ⟨q1, rfl, rfl, Hq1⟩ := hcut
    have hvp : 0 < v := by omega
    have hR1 : (u * 4294967296 + d1) % v < v := Nat.mod_lt _ hvp
    have h21 : IntKind.u64.wrap (IntKind.u64.wrap (IntKind.u64.wrap ((u : Int) * 4294967296) + (d1 : Int)) - IntKind.u64.wrap ((q1 : Int) * (v : Int))) = (((u * 4294967296 + d1) % v : Nat) : Int) := by
      have e := Nat.div_add_mod (u * 4294967296 + d1) v
      rw [Hv.out] at e hR1
      rw [← Hq1.out, ← Hv.out] at e
      rw [← Hv.out] at hR1
      rw [Nat.mul_comm v] at e
      simp only [IntKind.wrap_u64]
      rw [← Int.natCast_mul]
      generalize q1 * v = z at *
      generalize (u * 4294967296 + d1) % v = r1 at *
      omega
    have Hq1v : Hid (q1 = (u * 4294967296 + d1) / v) := by show q1 = (u * 4294967296 + d1) / v; rw [Hq1.out, ← Hv.out]
    have hq1lt : q1 < 4294967296 := by rw [Hq1v.out]; exact quo_lt b4 huv
    obtain ⟨u2, hu2⟩ : ∃ u2, (u * 4294967296 + d1) % v = u2 := ⟨_, rfl⟩
    rw [hu2] at h21 hR1
    have Hu2 := Lib.hid hu2
    clear hu2 Q1 hq hr hq3 hrv hqw
    have Q2 := QInv.start (B := 4294967296) (u := u2) (v1 := v1) (v0 := v0) (d := d0) b5 (by omega) (by omega) (by omega) b3 (by rw [← Hv.out]; exact hR1)
    have hq2 : (u2 : Int) / (v1 : Int) = ((u2 / v1 : Nat) : Int) := by rw [Int.natCast_ediv]
    have hr2 : IntKind.u64.wrap ((u2 : Int) - IntKind.u64.wrap (((u2 / v1 : Nat) : Int) * (v1 : Int))) = ((u2 % v1 : Nat) : Int) := by
      have e := Nat.div_add_mod u2 v1
      rw [Nat.mul_comm] at e
      rw [IntKind.wrap_u64, IntKind.wrap_u64, ← Int.natCast_mul]
      generalize u2 / v1 * v1 = qv at *
      omega
    have hrv2 : u2 % v1 < v1 := Nat.mod_lt _ (by omega)
    generalize u2 / v1 = qa at *
    generalize u2 % v1 = ra at *
    have hqa3 := Q2.2.2
    have hqw2 : IntKind.u64.wrap (qa : Int) = (qa : Int) := IntWalk.u64_in _ (by omega)
    go_upto_block 2 with fail
    go_cut [18] (fun a wx => ∃ q2 : Nat, w = wx ∧ a = .int .u64 q2 ∧ Hid (q2 = (u2 * 4294967296 + d0) / (v1 * 4294967296 + v0)))
    case first =>
      go_wp2_with fail
      have HQ := Lib.hid Q2
      clear Q2 hqw2 hr2 hq2
      go_loop [18, 16] (fun a b => ∃ q r : Nat, a = .int .u64 q ∧ b = .int .u64 r ∧ r < 4294967296 ∧ Hid (QInv 4294967296 u2 v1 v0 d0 q r)) (fun a _ => (intOf a).toNat)
      case atStart => exact ⟨qa, ra, rfl, rfl, by omega, HQ⟩
      case round =>
        clear HQ hqa3 hrv2
        obtain ⟨qq, rr, rfl, rfl, hrB, HQ⟩ := hrel
        have hq3 := HQ.out.2.2
        rcases Nat.lt_or_ge qq 4294967296 with hqB | hqB
        · obtain ⟨pp, p1, p1e⟩ : ∃ pp : Nat, IntKind.u64.wrap ((qq : Int) * (v0 : Int)) = (pp : Int) ∧ qq * v0 = pp := by
            have : qq * v0 ≤ 4294967296 * 4294967296 - 1 := by
              have := Nat.mul_le_mul (show qq ≤ 4294967295 by omega) (show v0 ≤ 4294967295 by omega)
              omega
            refine ⟨qq * v0, ?_, rfl⟩
            rw [← Int.natCast_mul]
            generalize qq * v0 = z at *
            exact IntWalk.u64_in _ (by omega)
          obtain ⟨t2, p2, p2e⟩ : ∃ t2 : Nat, IntKind.u64.wrap (IntKind.u64.wrap (4294967296 * (rr : Int)) + (d0 : Int)) = (t2 : Int) ∧ 4294967296 * rr + d0 = t2 := by
            refine ⟨4294967296 * rr + d0, ?_, rfl⟩
            rw [IntWalk.u64_in (4294967296 * (rr : Int)) (by omega), IntWalk.u64_in _ (by omega)]
            omega
          have i1 : ¬ (4294967296 : Int) ≤ (qq : Int) := by omega
          have i3 : (rr : Int) < 4294967296 := by omega
          have i4 : (v1 : Int) < 4294967296 := by omega
          have i5 : (d0 : Int) < 4294967296 := by omega
          have i6 : (v0 : Int) < 4294967296 := by omega
          have i7 : (qq : Int) < 4294967296 := by omega
          have Hb1 := Lib.hid b1
          have Hb4 := Lib.hid b4
          have Hb3 := Lib.hid b3
          have HrB := Lib.hid hrB
          have Hq3 := Lib.hid hq3
          by_cases hlt : t2 < pp
          · have Hs := Lib.hid (HQ.out.step b5 (by omega) (by rw [← Hv.out]; exact hR1) (.inr (by rw [p1e, p2e]; exact hlt)))
            have hq1 : (1 : Int) ≤ (qq : Int) := by
              have := QInv.pos (u := u2) (v1 := v1) (B := 4294967296) (q := qq) (r := rr) (d := d0) (v0 := v0) (by omega) (.inr (by rw [p1e, p2e]; exact hlt))
              omega
            have hlt' : (t2 : Int) < (pp : Int) := by omega
            have hlt2 : 4294967296 * (rr : Int) + (d0 : Int) < (pp : Int) := by omega
            clear hqB hq3 b1 b2 b3 b4 b5 hrB hyn hy2 hmlt hR1 p1e p2e hlt
            by_cases hr2 : (4294967296 : Int) ≤ (rr : Int) + (v1 : Int)
            · go_wp2_with fail
              go_meet
              exact ⟨qq - 1, rfl, by go_num, Hs.out.brk (by have := Hq3.out; omega) Hb3.out (by omega)⟩
            · go_wp2_with fail
              go_round
              case rel => exact ⟨qq - 1, rr + v1, by go_num, by go_num, by omega, Hs⟩
              case measure => simp [intOf]; omega
          · have hlt' : ¬ (t2 : Int) < (pp : Int) := by omega
            have hlt2 : ¬ 4294967296 * (rr : Int) + (d0 : Int) < (pp : Int) := by omega
            have Hex := Lib.hid (HQ.out.exit (by rw [p1e, p2e]; omega))
            clear hqB hq3 b1 b2 b3 b4 b5 hrB hyn hy2 hmlt hR1 p1e p2e hlt
            go_wp2_with fail
            go_meet
            exact ⟨qq, rfl, rfl, Hex⟩
        · have Hs := Lib.hid (HQ.out.step b5 (by omega) (by rw [← Hv.out]; exact hR1) (.inl hqB))
          have Hq := Lib.hid hqB
          have Hq3 := Lib.hid hq3
          have i1 : (4294967296 : Int) ≤ (qq : Int) := by omega
          have i2 : (qq : Int) ≤ 4294967297 := by omega
          have i3 : (rr : Int) < 4294967296 := by omega
          have i4 : (v1 : Int) < 4294967296 := by omega
          have Hb1 := Lib.hid b1
          have Hb4 := Lib.hid b4
          have Hb3 := Lib.hid b3
          have HrB := Lib.hid hrB
          clear hqB hq3 b1 b2 b3 b4 b5 hrB hyn hy2 hmlt hR1
          by_cases hr2 : (4294967296 : Int) ≤ (rr : Int) + (v1 : Int)
          · go_wp2_with fail
            go_meet
            exact ⟨qq - 1, rfl, by have := Hq.out; go_num, Hs.out.brk (by have := Hq3.out; omega) Hb3.out (by omega)⟩
          · go_wp2_with fail
            go_round
            case rel => exact ⟨qq - 1, rr + v1, by have := Hq.out; go_num, by go_num, by omega, Hs⟩
            case measure => have := Hq.out; simp [intOf]; omega
    case rest =>
      obtain ⟨q2, rfl, rfl, Hq2⟩ := hcut
      go_wp2_with fail
      go_ret2
      have hq2lt : q2 < 4294967296 := by rw [Hq2.out, ← Hv.out]; exact quo_lt b5 hR1
      have Hq2v : q2 = (u2 * 4294967296 + d0) / v := by rw [Hq2.out, ← Hv.out]
      obtain ⟨t1, t2⟩ := two_places (B := 4294967296) (v := v) (u := u) (d1 := d1) (d0 := d0) hvp
      rw [Hu2.out, ← Hq1v.out, ← Hq2v] at t1
      rw [Hu2.out] at t2
      have eN : u * 4294967296 * 4294967296 + d1 * 4294967296 + d0 = (hi * W + lo) * 2 ^ s := by
        rw [Nat.mul_assoc, Nat.add_assoc, ← Hm.out, ← W_sq, HN.out]
      have hp2 : 0 < 2 ^ s := Nat.pow_pos (by omega)
      rw [eN, ← HV.out, Nat.mul_div_mul_right _ _ hp2] at t1
      rw [eN, ← HV.out, Nat.mul_mod_mul_right, HV.out] at t2
      have hR0 : (u2 * 4294967296 + d0) % v < v := Nat.mod_lt _ hvp
      have g1 : IntKind.u64.wrap ((q1 : Int) * 4294967296 + (q2 : Int)) = (((hi * W + lo) / y : Nat) : Int) := by
        rw [← t1]
        rw [IntWalk.u64_in _ (by omega)]
        omega
      have g2 : IntKind.u64.wrap (IntKind.u64.wrap (IntKind.u64.wrap ((u2 : Int) * 4294967296) + (d0 : Int)) - IntKind.u64.wrap ((q2 : Int) * (v : Int))) / 2 ^ s = (((hi * W + lo) % y : Nat) : Int) := by
        have e := Nat.div_add_mod (u2 * 4294967296 + d0) v
        rw [← Hq2v, Nat.mul_comm v] at e
        have e2 := wrap_rest u2 d0 q2 v _ e (Nat.lt_trans hR0 (by omega))
        rw [e2, t2]
        have e3 : ((2 : Int) ^ s) = ((2 ^ s : Nat) : Int) := by rw [Int.natCast_pow]; rfl
        rw [e3, ← Int.natCast_ediv, Nat.mul_div_cancel _ hp2]
      refine ⟨?_, Ext.refl _⟩
      show Ending.returned (.tuple #[.int .u64 (IntKind.u64.wrap ((q1 : Int) * 4294967296 + (q2 : Int))), .int .u64 (IntKind.u64.wrap (IntKind.u64.wrap (IntKind.u64.wrap ((u2 : Int) * 4294967296) + (d0 : Int)) - IntKind.u64.wrap ((q2 : Int) * (v : Int))) / 2 ^ s)]) = _
      rw [g1, g2]

/-- bits.Div64: hi below y. -/
theorem div64_calls (hi lo y : Nat) (w : World) (hlo : lo < W) (hyW : y < W) (hhy : hi < y) :
    Calls Try.prog 115 #[.int .u64 (hi : Int), .int .u64 (lo : Int), .int .u64 (y : Int)] w fun e w' => e = .returned (.tuple #[.int .u64 (((hi * W + lo) / y : Nat) : Int), .int .u64 (((hi * W + lo) % y : Nat) : Int)]) ∧ Ext w w' := by
  rcases Nat.eq_zero_or_pos hi with h | h
  · subst h
    have := div64_zero lo y w hlo hhy hyW
    rw [Nat.zero_mul, Nat.zero_add]
    exact this
  · exact div64_pos hi lo y w hlo hyW hhy h
end Go.Proofs.Ytnefipinicfegaa
