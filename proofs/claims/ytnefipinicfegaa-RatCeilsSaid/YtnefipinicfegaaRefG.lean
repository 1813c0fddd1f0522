/-
  The document's numbers: what words tell.
-/
import Derived.Test.YtnefipinicfegaaRefF
namespace Go.Proofs.Ytnefipinicfegaa
open Go.RowKit
set_option linter.unusedVariables false
set_option linter.unusedSimpArgs false

set_option maxRecDepth 100000 in
set_option maxHeartbeats 1000000 in
theorem half_of (a : Nat) (ha : a < W) : bits .and .u64 (a : Int) 4294967295 = ((a % 4294967296 : Nat) : Int) := by
  have h := u64_and_nat a 4294967295 (by rw [W_eq] at ha; exact ha) (by omega)
  have e : ((4294967295 : Nat) : Int) = 4294967295 := rfl
  rw [e] at h
  rw [h]
  congr 1
  have := Nat.and_two_pow_sub_one_eq_mod a 32
  simpa using this

set_option maxRecDepth 100000 in
set_option maxHeartbeats 4000000 in
set_option maxRecDepth 100000 in
set_option maxHeartbeats 1000000 in
/-- ref01.Of. -/
theorem rof01_calls (v : Value) (n : Nat) (w : World) (hv : IsN .u64 W w v n) (hsz : sz TK n ≤ 68719476736) :
    Calls Try.prog 59 #[v] w fun e w' => ∃ v', e = .returned v' ∧ FrN 3 .i64 TK w.heap.size w' v' n ∧ Ext w w' := by
  obtain ⟨xs, ⟨ad, cap, rfl, hlc, hcap, hr⟩, hlen, dx, hx⟩ := hv
  (first | rw [LIM_eq] at hlen | rw [LIM_eqT] at hlen)
  have Hx := Lib.hid hx
  clear hx
  have eb := emptyD
  have hf0 := frl_empty w 3 .i64
  have hal := (Ext.refl w).alloc (.cells #[] 3)
  go_enter Try.func59, Try.ntmps59
  go_wp2_with fail
  refine (rsmall_calls 4294967296 _ (by omega)).mono ?_
  rintro e w1 ⟨vh, rfl, hh, e1⟩
  have hex1 := hal.trans e1
  have hh1 := hh.isC.isN TK_gt (by (first | rw [LIM_eq] | rw [LIM_eqT]); exact Nat.le_trans (dg_small_len (by omega)) (by omega))
  obtain ⟨H, hH⟩ : ∃ H : Nat, H = 4294967296 := ⟨_, rfl⟩
  rw [← hH] at hh1
  have HH := Lib.hid hH
  clear hH
  have hfr1 := hf0.ext e1
  clear hh
  go_wp2_with fail
  go_loopw [3, 5] (fun out i wr => ∃ k : Nat, i = .int .i64 ((k : Int) - 1) ∧ FrN 3 .i64 TK w.heap.size wr out (hiV W xs k) ∧ k ≤ xs.length ∧ Ext w1 wr) (fun _ i _ => (intOf i + 1).toNat)
  case atStart => exact ⟨xs.length, rfl, by rw [hi_big xs _ (Nat.le_refl _)]; exact hfr1, Nat.le_refl _, Ext.refl _⟩
  case round =>
    obtain ⟨k, rfl, hfr, hk, hexr⟩ := hrel
    have hex := hex1.trans hexr
    rcases Nat.eq_zero_or_pos k with hk0 | hk0
    · subst hk0
      rw [hi_zero, Hx.out] at hfr
      go_wp2
      go_ret
      exact ⟨_, rfl, hfr, hex⟩
    · obtain ⟨j, rfl⟩ : ∃ j, k = j + 1 := ⟨k - 1, by omega⟩
      rw [show ((j + 1 : Nat) : Int) - 1 = (j : Int) from by omega]
      obtain ⟨b, off, rfl, hcells⟩ := hr.at (by rw [vals_length]; omega)
      have hcell := hex.cell (hcells j _ (vals_get .u64 xs j (by omega)))
      rw [← gD_lt (show j < xs.length by omega)] at hcell
      have hst := hi_step (B := W) xs j
      have ha1 := dx.gD (show 0 < W by rw [W_eq]; omega) j
      have hle : hiV W xs j ≤ n := by
        rw [← Hx.out, hi_split xs j]
        have : 1 * hiV W xs j ≤ W ^ j * hiV W xs j := Nat.mul_le_mul_right _ (Nat.pow_pos (by rw [W_eq]; omega))
        omega
      obtain ⟨a, ha⟩ : ∃ a, a = gD xs j := ⟨_, rfl⟩
      rw [← ha] at hst ha1 hcell
      have hand := half_of a ha1
      rw [W_eq] at ha1
      obtain ⟨p, hp⟩ : ∃ p, p = a / 4294967296 := ⟨_, rfl⟩
      obtain ⟨q, hq⟩ : ∃ q, q = a % 4294967296 := ⟨_, rfl⟩
      rw [← hq] at hand
      have hpi : (a : Int) / 4294967296 = (p : Int) := by omega
      have hpq : a = p * 4294967296 + q := by omega
      have hp1 : p < 4294967296 := by omega
      have hq1 : q < 4294967296 := by omega
      obtain ⟨t, ht⟩ : ∃ t, t = hiV W xs (j + 1) := ⟨_, rfl⟩
      rw [← ht] at hst hfr
      obtain ⟨z, hz⟩ : ∃ z, z = hiV W xs j := ⟨_, rfl⟩
      rw [← hz] at hst hle
      have hz2 : z = (t * H + p) * H + q := by rw [HH.out, hst, hpq, W_eq]; omega
      have hszz : sz TK z ≤ 68719476736 := Nat.le_trans (dg_len_mono TK_gt hle) hsz
      have hs3 : sz TK ((t * H + p) * H) ≤ 68719476736 := Nat.le_trans (dg_len_mono TK_gt (by rw [hz2]; omega)) hszz
      have hs2 : sz TK (t * H + p) ≤ 68719476736 := Nat.le_trans (dg_len_mono TK_gt (by rw [HH.out]; omega)) hs3
      have hs1 : sz TK (t * H) ≤ 68719476736 := Nat.le_trans (dg_len_mono TK_gt (by omega)) hs2
      have hs0 : sz TK t ≤ 68719476736 := Nat.le_trans (dg_len_mono TK_gt (by rw [HH.out]; omega)) hs1
      have sp : ∀ m : Nat, m < 4294967296 → sz TK m ≤ 5 := fun m hm => dg_small_len (by omega)
      have Hz := Lib.hid hz
      have Hz2 := Lib.hid hz2
      have hw1 : IntKind.i64.wrap (p : Int) = (p : Int) := by simp (disch := omega) only [IntWalk.i64_in]
      have hw2 : IntKind.i64.wrap (q : Int) = (q : Int) := by simp (disch := omega) only [IntWalk.i64_in]
      have hjl : j < xs.length := by omega
      clear hcells hst hpq ha hp hq ht hz hz2 hle
      go_wp2_with fail
      refine wp_region_puts [] [PP.val (u3), PP.val (vh), PP.frN 3 .i64 TK (t * H), PP.val (.slice (some ⟨b, off, none⟩) xs.length cap), PP.val (.int .i64 j), PP.val (.pointer (some ⟨b, off + j, none⟩)), PP.val (.int .u64 (a : Int)), PP.val (.int .u64 (p : Int)), PP.val (.int .i64 (p : Int)), PP.frN 3 .i64 TK p, PP.frN 3 .i64 TK (t * H + p), PP.frN 3 .i64 TK (t * H + p)] [(0, 11, 3)] [0, 1, 2, 3, 4, 5, 6, 7, 8, 9, 10, 11]
        (by kernel_rfl) (by kernel_rfl) (fun f => (by simp only [fillR, fillL, List.setIfInBounds_toArray, List.set_cons_succ, List.set_cons_zero, Nat.reduceAdd]; rfl)) ?_ ?_ ?_ ?_ ?_
      · intro x hx; cases hx
      · intro x hx; cases hx
      · intro x hx; cases hx
      · refine ⟨?o0, ?o1, ?o2, ?o3, ?o4, ?o5, ?o6, ?o7, ?o8, ?o9, ?o10, ?o11, trivial⟩
        case o0 =>
          intro f w2 hG hp hl
          have hE : Ext wr w2 := hG
          have hS := hE.size
          have l3 : f 11 = u3 := hl.1 rfl
          simp only [OpGoal]
          go_simp
          exact ⟨_, rfl, Ext.refl _, rfl⟩
        case o1 =>
          intro f w2 hG hp hl
          have hE : Ext wr w2 := hG
          have hS := hE.size
          simp only [OpGoal]
          go_simp
          exact ⟨_, rfl, Ext.refl _, rfl⟩
        case o2 =>
          intro f w2 hG hp hl
          have hE : Ext wr w2 := hG
          have hS := hE.size
          have q15 : f 0 = u3 := tellV hp 0 0 rfl rfl (fun h => by cases h)
          have q16 : f 1 = vh := tellV hp 1 1 rfl rfl (fun h => by cases h)
          change OpGoal _ _ _ f w2 Ext _
          refine og_call (P := Try.prog) _ _ _ #[f 0, f 1] Try.func79 (by kernel_rfl) (by kernel_rfl) rfl rfl (by kernel_rfl) ?_
          rw [q15, q16]
          refine (rmul01_calls _ _ t H _ ((hfr.isC.isN TK_gt (by (first | rw [LIM_eq] | rw [LIM_eqT]); omega)).ext hE) (hh1.ext (hexr.trans hE))).mono ?_
          rintro e w' ⟨v', rfl, h1, h2⟩
          exact ⟨v', rfl, h2, h1.mono hS⟩
        case o3 =>
          intro f w2 hG hp hl
          have hE : Ext wr w2 := hG
          have hS := hE.size
          simp only [OpGoal]
          go_simp
          exact ⟨_, rfl, Ext.refl _, rfl⟩
        case o4 =>
          intro f w2 hG hp hl
          have hE : Ext wr w2 := hG
          have hS := hE.size
          simp only [OpGoal]
          go_simp
          exact ⟨_, rfl, Ext.refl _, rfl⟩
        case o5 =>
          intro f w2 hG hp hl
          have hE : Ext wr w2 := hG
          have hS := hE.size
          have q18 : f 3 = .slice (some ⟨b, off, none⟩) xs.length cap := tellV hp 0 3 rfl rfl (fun h => by cases h)
          have q19 : f 4 = .int .i64 j := tellV hp 1 4 rfl rfl (fun h => by cases h)
          simp only [OpGoal]
          go_simp
          exact ⟨_, rfl, Ext.refl _, rfl⟩
        case o6 =>
          intro f w2 hG hp hl
          have hE : Ext wr w2 := hG
          have hS := hE.size
          have q20 : f 5 = .pointer (some ⟨b, off + j, none⟩) := tellV hp 0 5 rfl rfl (fun h => by cases h)
          have hc2 := hE.cell hcell
          simp only [OpGoal]
          go_simp
          exact ⟨_, rfl, Ext.refl _, rfl⟩
        case o7 =>
          intro f w2 hG hp hl
          have hE : Ext wr w2 := hG
          have hS := hE.size
          have q21 : f 6 = .int .u64 (a : Int) := tellV hp 0 6 rfl rfl (fun h => by cases h)
          simp only [OpGoal]
          go_simp
          exact ⟨_, rfl, Ext.refl _, rfl⟩
        case o8 =>
          intro f w2 hG hp hl
          have hE : Ext wr w2 := hG
          have hS := hE.size
          have q22 : f 7 = .int .u64 (p : Int) := tellV hp 0 7 rfl rfl (fun h => by cases h)
          simp only [OpGoal]
          go_simp
          exact ⟨_, rfl, Ext.refl _, rfl⟩
        case o9 =>
          intro f w2 hG hp hl
          have hE : Ext wr w2 := hG
          have hS := hE.size
          have q23 : f 8 = .int .i64 (p : Int) := tellV hp 0 8 rfl rfl (fun h => by cases h)
          change OpGoal _ _ _ f w2 Ext _
          refine og_call (P := Try.prog) _ _ _ #[f 8] Try.func82 (by kernel_rfl) (by kernel_rfl) rfl rfl (by kernel_rfl) ?_
          rw [q23]
          refine (rsmall_calls p _ (by omega)).mono ?_
          rintro e w' ⟨v', rfl, h1, h2⟩
          exact ⟨v', rfl, h2, h1.mono hS⟩
        case o10 =>
          intro f w2 hG hp hl
          have hE : Ext wr w2 := hG
          have hS := hE.size
          have q17 := tellV hp 0 2 rfl rfl (fun _ => hE)
          have q24 := tellV hp 1 9 rfl rfl (fun _ => hE)
          change OpGoal _ _ _ f w2 Ext _
          refine og_call (P := Try.prog) _ _ _ #[f 2, f 9] Try.func83 (by kernel_rfl) (by kernel_rfl) rfl rfl (by kernel_rfl) ?_
          refine (radd01_calls _ _ (t * H) p _ (q17.isC.isN TK_gt (by (first | rw [LIM_eq] | rw [LIM_eqT]); omega)) (q24.isC.isN TK_gt (by have := sp p hp1; (first | rw [LIM_eq] | rw [LIM_eqT]); omega)) hs1 (by have := sp p hp1; omega)).mono ?_
          rintro e w' ⟨v', rfl, h1, h2⟩
          exact ⟨v', rfl, h2, h1.mono hS⟩
        case o11 =>
          intro f w2 hG hp hl
          have hE : Ext wr w2 := hG
          have hS := hE.size
          have q25 := tellV hp 0 10 rfl rfl (fun _ => hE)
          exact ⟨_, rfl, Ext.refl _, q25⟩
      · intro f w2 hG hp
        have hE : Ext wr w2 := ChgS.nil hG
        have q3 := endV hp 11 (by decide) rfl (fun _ => hE)
        clear hp
        have hq3 := FrN.mono q3 hex.size
        have hex2 := hex.trans hE
        have hexr2 := hexr.trans hE
        have hcell2 := hE.cell hcell
        clear q3
        generalize f 11 = v3 at *
        go_wp2_with fail
        refine wp_region_puts [] [PP.val (v3), PP.val (vh), PP.frN 3 .i64 TK ((t * H + p) * H), PP.val (.slice (some ⟨b, off, none⟩) xs.length cap), PP.val (.int .i64 j), PP.val (.pointer (some ⟨b, off + j, none⟩)), PP.val (.int .u64 (a : Int)), PP.val (.int .u64 (q : Int)), PP.val (.int .i64 (q : Int)), PP.frN 3 .i64 TK q, PP.frN 3 .i64 TK ((t * H + p) * H + q), PP.frN 3 .i64 TK ((t * H + p) * H + q)] [(0, 11, 3)] [0, 1, 2, 3, 4, 5, 6, 7, 8, 9, 10, 11]
          (by kernel_rfl) (by kernel_rfl) (fun f => (by simp only [fillR, fillL, List.setIfInBounds_toArray, List.set_cons_succ, List.set_cons_zero, Nat.reduceAdd]; rfl)) ?_ ?_ ?_ ?_ ?_
        · intro x hx; cases hx
        · intro x hx; cases hx
        · intro x hx; cases hx
        · refine ⟨?o0, ?o1, ?o2, ?o3, ?o4, ?o5, ?o6, ?o7, ?o8, ?o9, ?o10, ?o11, trivial⟩
          case o0 =>
            intro f w3 hG hp hl
            have hE : Ext w2 w3 := hG
            have hS := hE.size
            have l3 : f 11 = v3 := hl.1 rfl
            simp only [OpGoal]
            go_simp
            exact ⟨_, rfl, Ext.refl _, rfl⟩
          case o1 =>
            intro f w3 hG hp hl
            have hE : Ext w2 w3 := hG
            have hS := hE.size
            simp only [OpGoal]
            go_simp
            exact ⟨_, rfl, Ext.refl _, rfl⟩
          case o2 =>
            intro f w3 hG hp hl
            have hE : Ext w2 w3 := hG
            have hS := hE.size
            have q26 : f 0 = v3 := tellV hp 0 0 rfl rfl (fun h => by cases h)
            have q27 : f 1 = vh := tellV hp 1 1 rfl rfl (fun h => by cases h)
            change OpGoal _ _ _ f w3 Ext _
            refine og_call (P := Try.prog) _ _ _ #[f 0, f 1] Try.func79 (by kernel_rfl) (by kernel_rfl) rfl rfl (by kernel_rfl) ?_
            rw [q26, q27]
            refine (rmul01_calls _ _ (t * H + p) H _ ((hq3.isC.isN TK_gt (by (first | rw [LIM_eq] | rw [LIM_eqT]); omega)).ext hE) (hh1.ext (hexr2.trans hE))).mono ?_
            rintro e w' ⟨v', rfl, h1, h2⟩
            exact ⟨v', rfl, h2, h1.mono hS⟩
          case o3 =>
            intro f w3 hG hp hl
            have hE : Ext w2 w3 := hG
            have hS := hE.size
            simp only [OpGoal]
            go_simp
            exact ⟨_, rfl, Ext.refl _, rfl⟩
          case o4 =>
            intro f w3 hG hp hl
            have hE : Ext w2 w3 := hG
            have hS := hE.size
            simp only [OpGoal]
            go_simp
            exact ⟨_, rfl, Ext.refl _, rfl⟩
          case o5 =>
            intro f w3 hG hp hl
            have hE : Ext w2 w3 := hG
            have hS := hE.size
            have q29 : f 3 = .slice (some ⟨b, off, none⟩) xs.length cap := tellV hp 0 3 rfl rfl (fun h => by cases h)
            have q30 : f 4 = .int .i64 j := tellV hp 1 4 rfl rfl (fun h => by cases h)
            simp only [OpGoal]
            go_simp
            exact ⟨_, rfl, Ext.refl _, rfl⟩
          case o6 =>
            intro f w3 hG hp hl
            have hE : Ext w2 w3 := hG
            have hS := hE.size
            have q31 : f 5 = .pointer (some ⟨b, off + j, none⟩) := tellV hp 0 5 rfl rfl (fun h => by cases h)
            have hc2 := hE.cell hcell2
            simp only [OpGoal]
            go_simp
            exact ⟨_, rfl, Ext.refl _, rfl⟩
          case o7 =>
            intro f w3 hG hp hl
            have hE : Ext w2 w3 := hG
            have hS := hE.size
            have q32 : f 6 = .int .u64 (a : Int) := tellV hp 0 6 rfl rfl (fun h => by cases h)
            simp only [OpGoal]
            go_simp
            exact ⟨_, rfl, Ext.refl _, rfl⟩
          case o8 =>
            intro f w3 hG hp hl
            have hE : Ext w2 w3 := hG
            have hS := hE.size
            have q33 : f 7 = .int .u64 (q : Int) := tellV hp 0 7 rfl rfl (fun h => by cases h)
            simp only [OpGoal]
            go_simp
            exact ⟨_, rfl, Ext.refl _, rfl⟩
          case o9 =>
            intro f w3 hG hp hl
            have hE : Ext w2 w3 := hG
            have hS := hE.size
            have q34 : f 8 = .int .i64 (q : Int) := tellV hp 0 8 rfl rfl (fun h => by cases h)
            change OpGoal _ _ _ f w3 Ext _
            refine og_call (P := Try.prog) _ _ _ #[f 8] Try.func82 (by kernel_rfl) (by kernel_rfl) rfl rfl (by kernel_rfl) ?_
            rw [q34]
            refine (rsmall_calls q _ (by omega)).mono ?_
            rintro e w' ⟨v', rfl, h1, h2⟩
            exact ⟨v', rfl, h2, h1.mono hS⟩
          case o10 =>
            intro f w3 hG hp hl
            have hE : Ext w2 w3 := hG
            have hS := hE.size
            have q28 := tellV hp 0 2 rfl rfl (fun _ => hE)
            have q35 := tellV hp 1 9 rfl rfl (fun _ => hE)
            change OpGoal _ _ _ f w3 Ext _
            refine og_call (P := Try.prog) _ _ _ #[f 2, f 9] Try.func83 (by kernel_rfl) (by kernel_rfl) rfl rfl (by kernel_rfl) ?_
            refine (radd01_calls _ _ ((t * H + p) * H) q _ (q28.isC.isN TK_gt (by (first | rw [LIM_eq] | rw [LIM_eqT]); omega)) (q35.isC.isN TK_gt (by have := sp q hq1; (first | rw [LIM_eq] | rw [LIM_eqT]); omega)) hs3 (by have := sp q hq1; omega)).mono ?_
            rintro e w' ⟨v', rfl, h1, h2⟩
            exact ⟨v', rfl, h2, h1.mono hS⟩
          case o11 =>
            intro f w3 hG hp hl
            have hE : Ext w2 w3 := hG
            have hS := hE.size
            have q36 := tellV hp 0 10 rfl rfl (fun _ => hE)
            exact ⟨_, rfl, Ext.refl _, q36⟩
        · intro f w3 hG hp
          have hE : Ext w2 w3 := ChgS.nil hG
          have q3 := endV hp 11 (by decide) rfl (fun _ => hE)
          clear hp
          have hq4 := FrN.mono q3 (Nat.le_trans hex2.size (Nat.le_refl _))
          rw [← Hz2.out, Hz.out] at hq4
          clear q3
          generalize f 11 = v4 at *
          go_wp2
          go_roundw
          case rel => exact ⟨j, rfl, hq4, by omega, hexr2.trans hE⟩
          case measure => simp [intOf]
end Go.Proofs.Ytnefipinicfegaa
