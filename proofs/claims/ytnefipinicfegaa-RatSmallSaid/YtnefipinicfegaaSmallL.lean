/-
  The law RatSmall returns true, whatever its two numbers are.
-/
import Derived.Test.YtnefipinicfegaaLawB
namespace Go.Proofs.Ytnefipinicfegaa
open Go.RowKit

set_option maxRecDepth 100000 in
set_option maxHeartbeats 1000000 in
theorem int_divInt (z : Int) : (z : Rat) = Rat.divInt z 1 := by
  have h : Rat.divInt z ((1 : Nat) : Int) = mkRat z 1 := Rat.divInt_ofNat z 1
  have h2 := Rat.mkRat_self (z : Rat)
  rw [Rat.num_intCast, Rat.den_intCast] at h2
  rw [show ((1 : Nat) : Int) = 1 from rfl] at h
  rw [h, h2]

set_option maxRecDepth 100000 in
set_option maxHeartbeats 2000000 in
theorem ratSmall_calls (n d : Int) (w : World) (h0 : -9223372036854775808 ≤ n) (h1 : n ≤ 9223372036854775807) (h2 : -9223372036854775808 ≤ d) (h3 : d ≤ 9223372036854775807) :
    Calls Try.prog 4 #[.int .i64 n, .int .i64 d] w fun e w' => e = .returned (.bool true) ∧ Ext w w' := by
  go_enter Try.func4, Try.ntmps4
  go_wp2_with fail
  refine (speaks_calls _).mono ?_
  rintro e w1 ⟨rfl, e1⟩
  by_cases hd : d = 0
  · subst hd
    go_wp2_with fail
    refine (rof_zero n _ h0 h1).mono ?_
    rintro e w2 ⟨rfl, e2⟩
    unfold zeroQ
    obtain ⟨w3, hw3, e3, b3, s3⟩ := alloc1 w2 #[.bool false, .slice none 0 0, .slice none 0 0] 28
    go_wp2_with fail
    rw [← hw3]
    refine (rwhole_calls n _ h0 h1).mono ?_
    rintro e w4 ⟨v4, rfl, q4, e4⟩
    rw [int_divInt] at q4
    go_wp2_with fail
    refine (small_calls n 1 _ h0 h1 (by omega) (by omega) (by omega)).mono ?_
    rintro e w5 ⟨v5, rfl, q5, e5⟩
    go_wp2_with fail
    refine (same_true _ _ _ _ _ _ (q4.ext e5) q5).mono ?_
    rintro e w6 ⟨rfl, e6⟩
    have E36 := (e4.trans e5).trans e6
    have hc0 := (b3.ext E36).cell 0
    have hc1 := (b3.ext E36).cell 1
    have hc2 := (b3.ext E36).cell 2
    go_wp2_with fail
    refine (rqsame3_calls _ _ _ _ _ _ _ _ _ (zeroQ.raw w6) (zeroQ.raw w6)).mono ?_
    rintro e w7 ⟨rfl, e7⟩
    go_wp2
    go_ret
    exact ⟨by simp, ((((e1.trans e2).trans e3).trans E36).trans e7)⟩
  · go_wp2_with fail
    refine (rof_calls n d _ h0 h1 h2 h3 hd).mono ?_
    rintro e w2 ⟨v2, rfl, q2, e2⟩
    obtain ⟨b2, ad2, l2, cap2, bd2, m2, dap2, rfl, q2⟩ := q2.opn
    obtain ⟨w3, hw3, e3, b3, s3⟩ := alloc1 w2 #[.bool b2, .slice ad2 l2 cap2, .slice bd2 m2 dap2] 28
    go_wp2_with fail
    rw [← hw3]
    refine (rwhole_calls n _ h0 h1).mono ?_
    rintro e w4 ⟨v4, rfl, q4, e4⟩
    rw [int_divInt] at q4
    go_wp2_with fail
    refine (small_calls n 1 _ h0 h1 (by omega) (by omega) (by omega)).mono ?_
    rintro e w5 ⟨v5, rfl, q5, e5⟩
    go_wp2_with fail
    refine (same_true _ _ _ _ _ _ (q4.ext e5) q5).mono ?_
    rintro e w6 ⟨rfl, e6⟩
    have E36 := (e4.trans e5).trans e6
    have E := ((e1.trans e2).trans e3).trans E36
    have B3 := b3.ext E36
    have Q2 := q2.ext (e3.trans E36)
    go_wp2_with fail
    refine wp_region_puts [] [PP.val (.int .i64 0), PP.val (.bool true), PP.val (.bool true), PP.val (.agg #[.bool b2, .slice ad2 l2 cap2, .slice bd2 m2 dap2]), PP.val (.int .i64 n), PP.val (.int .i64 d), PP.frQ (Rat.divInt n d), PP.val (.bool true), PP.val (.bool true), PP.val (.bool true)] [] [0, 1, 2, 3, 4, 5, 6, 7, 8, 9]
      (by kernel_rfl) (by kernel_rfl) (fun f => (by simp only [fillR, fillL, List.setIfInBounds_toArray, List.set_cons_succ, List.set_cons_zero, Nat.reduceAdd]; rfl)) ?_ ?_ ?_ ?_ ?_
    · intro x hx; cases hx
    · intro x hx; cases hx
    · intro x hx; cases hx
    · refine ⟨?o0, ?o1, ?o2, ?o3, ?o4, ?o5, ?o6, ?o7, ?o8, ?o9, trivial⟩
      case o0 =>
        intro f w7 hG hp hl
        have hE : Ext w6 w7 := hG
        have hS := hE.size
        simp only [OpGoal]
        go_simp
        exact ⟨_, rfl, Ext.refl _, rfl⟩
      case o1 =>
        intro f w7 hG hp hl
        have hE : Ext w6 w7 := hG
        have hS := hE.size
        have q30 : f 0 = .int .i64 0 := tellV hp 0 0 rfl rfl (fun h => by cases h)
        simp only [OpGoal]
        go_simp
        exact ⟨_, rfl, Ext.refl _, rfl⟩
      case o2 =>
        intro f w7 hG hp hl
        have hE : Ext w6 w7 := hG
        have hS := hE.size
        have q31 : f 1 = .bool true := tellV hp 0 1 rfl rfl (fun h => by cases h)
        simp only [OpGoal]
        go_simp
        exact ⟨_, rfl, Ext.refl _, rfl⟩
      case o3 =>
        intro f w7 hG hp hl
        have hE : Ext w6 w7 := hG
        have hS := hE.size
        have qg : f 2 = .bool true := tellV hp 0 2 rfl rfl (fun h => by cases h)
        change OpGoal _ _ _ f w7 Ext _
        refine og_guard (j := 2) (want := true) rfl qg ?_
        change OpGoal _ _ _ f w7 Ext _
        exact og_load (P := Try.prog) _ _ w2.heap.size _ _ _ rfl rfl rfl (B3.ext hE) Try.underlying28 rfl (by kernel_rfl) rfl
      case o4 =>
        intro f w7 hG hp hl
        have hE : Ext w6 w7 := hG
        have hS := hE.size
        have qg : f 2 = .bool true := tellV hp 0 2 rfl rfl (fun h => by cases h)
        change OpGoal _ _ _ f w7 Ext _
        refine og_guard (j := 2) (want := true) rfl qg ?_
        simp only [OpGoal]
        go_simp
        exact ⟨_, rfl, Ext.refl _, rfl⟩
      case o5 =>
        intro f w7 hG hp hl
        have hE : Ext w6 w7 := hG
        have hS := hE.size
        have qg : f 2 = .bool true := tellV hp 0 2 rfl rfl (fun h => by cases h)
        change OpGoal _ _ _ f w7 Ext _
        refine og_guard (j := 2) (want := true) rfl qg ?_
        simp only [OpGoal]
        go_simp
        exact ⟨_, rfl, Ext.refl _, rfl⟩
      case o6 =>
        intro f w7 hG hp hl
        have hE : Ext w6 w7 := hG
        have hS := hE.size
        have q34 : f 4 = .int .i64 n := tellV hp 0 4 rfl rfl (fun h => by cases h)
        have q35 : f 5 = .int .i64 d := tellV hp 1 5 rfl rfl (fun h => by cases h)
        have qg : f 2 = .bool true := tellV hp 2 2 rfl rfl (fun h => by cases h)
        change OpGoal _ _ _ f w7 Ext _
        refine og_guard (j := 2) (want := true) rfl qg ?_
        change OpGoal _ _ _ f w7 Ext _
        refine og_call (P := Try.prog) _ _ _ #[f 4, f 5] Try.func25 (by kernel_rfl) (by kernel_rfl) rfl rfl (by kernel_rfl) ?_
        rw [q34, q35]
        refine (small_calls n d _ h0 h1 h2 h3 hd).mono ?_
        rintro e w' ⟨v', rfl, h1, h2⟩
        exact ⟨v', rfl, h2, h1.mono hS⟩
      case o7 =>
        intro f w7 hG hp hl
        have hE : Ext w6 w7 := hG
        have hS := hE.size
        have q33 : f 3 = .agg #[.bool b2, .slice ad2 l2 cap2, .slice bd2 m2 dap2] := tellV hp 0 3 rfl rfl (fun h => by cases h)
        have q36 := tellV hp 1 6 rfl rfl (fun _ => hE)
        have qg : f 2 = .bool true := tellV hp 3 2 rfl rfl (fun h => by cases h)
        change OpGoal _ _ _ f w7 Ext _
        refine og_guard (j := 2) (want := true) rfl qg ?_
        change OpGoal _ _ _ f w7 Ext _
        refine og_call (P := Try.prog) _ _ _ #[f 3, f 6] Try.func16 (by kernel_rfl) (by kernel_rfl) rfl rfl (by kernel_rfl) ?_
        rw [q33]
        refine (same_true _ _ _ _ _ _ (Q2.ext hE) q36).mono ?_
        rintro e w' ⟨rfl, h2⟩
        exact ⟨_, rfl, h2, rfl⟩
      case o8 =>
        intro f w7 hG hp hl
        have hE : Ext w6 w7 := hG
        have hS := hE.size
        have q32 : f 2 = .bool true := tellV hp 0 2 rfl rfl (fun h => by cases h)
        have q37 : f 7 = .bool true := tellV hp 1 7 rfl rfl (fun h => by cases h)
        simp only [OpGoal]
        go_simp
        exact ⟨_, rfl, Ext.refl _, rfl⟩
      case o9 =>
        intro f w7 hG hp hl
        have hE : Ext w6 w7 := hG
        have hS := hE.size
        have q38 : f 8 = .bool true := tellV hp 0 8 rfl rfl (fun h => by cases h)
        simp only [OpGoal]
        go_simp
        exact ⟨_, rfl, Ext.refl _, rfl⟩
    · intro f w7 hG hp
      have hE : Ext w6 w7 := ChgS.nil hG
      have q4 : f 9 = .bool true := endV hp 9 (by decide) rfl (fun h => by cases h)
      try simp only [q4]
      clear hp
      go_wp2
      go_ret
      exact ⟨rfl, E.trans hE⟩
end Go.Proofs.Ytnefipinicfegaa
