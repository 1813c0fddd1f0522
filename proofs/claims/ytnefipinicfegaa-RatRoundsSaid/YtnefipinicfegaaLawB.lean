/-
  The document's examples come out as it says.
-/
import Derived.Test.YtnefipinicfegaaLawA
namespace Go.Proofs.Ytnefipinicfegaa
open Go.RowKit

set_option maxRecDepth 100000 in
set_option maxHeartbeats 1000000 in
theorem ex1 : Rat.divInt 1 6 + Rat.divInt 1 3 = Rat.divInt 1 2 := by
  rw [Rat.divInt_add_divInt _ _ (by decide) (by decide)]
  decide
set_option maxRecDepth 100000 in
set_option maxHeartbeats 1000000 in
theorem ex2 : Rat.divInt 6 (-4) = Rat.divInt (-3) 2 := by decide
set_option maxRecDepth 100000 in
set_option maxHeartbeats 1000000 in
theorem ex3 : (Rat.divInt (-7) 2).floor = -4 := by decide
set_option maxRecDepth 100000 in
set_option maxHeartbeats 1000000 in
theorem ex4 : (Rat.divInt (-7) 2).ceil = -3 := by decide
set_option maxRecDepth 100000 in
set_option maxHeartbeats 1000000 in
theorem ex5 : Rat.divInt (-7) 2 - ((Rat.divInt (-7) 2).floor : Rat) = Rat.divInt 1 2 := by
  have e : ((Rat.divInt (-7) 2).floor : Rat) = Rat.divInt (-4) 1 := by rw [ex3]; decide
  rw [e, Rat.divInt_sub_divInt _ _ (by decide) (by decide)]
  decide
set_option maxRecDepth 100000 in
set_option maxHeartbeats 1000000 in
theorem ex6 : (0 : Rat) = Rat.divInt 0 1 := by decide
set_option maxRecDepth 100000 in
set_option maxHeartbeats 1000000 in
theorem exs : szQ (Rat.divInt 1 6) ≤ 1 ∧ szQ (Rat.divInt 1 3) ≤ 1 ∧ szQ (Rat.divInt (-7) 2) ≤ 1 := by
  refine ⟨?_, ?_, ?_⟩
  · exact Nat.le_trans (szQ_divInt 1 6 (by omega)) (by decide)
  · exact Nat.le_trans (szQ_divInt 1 3 (by omega)) (by decide)
  · exact Nat.le_trans (szQ_divInt (-7) 2 (by omega)) (by decide)
set_option maxRecDepth 100000 in
set_option maxHeartbeats 1000000 in
theorem zeroQ.isR (w : World) : IsR w (.agg #[.bool false, .slice none 0 0, .slice none 0 0]) 0 1 :=
  ⟨0, 1, ⟨false, .slice none 0 0, .slice none 0 0, 0, 0, rfl, ⟨[], ⟨none, 0, rfl, Nat.le_refl _, by omega, Rd.nil _ _⟩, by simp, Dig.nil, rfl⟩, rfl, ⟨[], ⟨none, 0, rfl, Nat.le_refl _, by omega, Rd.nil _ _⟩, by simp, Dig.nil, rfl⟩, rfl⟩, by simp, by decide, by decide⟩

set_option maxRecDepth 100000 in
set_option maxHeartbeats 1000000 in
theorem FrQ.opn {B0 : Nat} {w : World} {v : Value} {q : Rat} (h : FrQ B0 w v q) : ∃ b ad l cap ad2 l2 cap2, v = .agg #[.bool b, .slice ad l cap, .slice ad2 l2 cap2] ∧ FrQ B0 w (.agg #[.bool b, .slice ad l cap, .slice ad2 l2 cap2]) q := by
  have h' := h
  obtain ⟨s, t, rfl, hn, hm⟩ := h
  obtain ⟨ad, cap, rfl⟩ := hn.slice
  obtain ⟨ad2, cap2, rfl⟩ := hm.slice
  exact ⟨_, _, _, _, _, _, _, rfl, h'⟩

set_option maxRecDepth 100000 in
set_option maxHeartbeats 4000000 in
theorem speaks_calls (w : World) : Calls Try.prog 11 #[] w fun e w' => e = .returned (.bool true) ∧ Ext w w' := by
  have lim : (1 : Nat) ≤ LIM := by rw [LIM_eq]; omega
  go_enter Try.func11, Try.ntmps11
  go_wp2_with fail
  refine (rof_calls 1 6 _ (by omega) (by omega) (by omega) (by omega) (by omega)).mono ?_
  rintro e w1 ⟨v1, rfl, q1, e1⟩
  obtain ⟨b1, ad1, l1, cap1, bd1, m1, dap1, rfl, q1⟩ := q1.opn
  obtain ⟨w2, hw2, f2, c1, s2⟩ := alloc1 w1 #[.bool b1, .slice ad1 l1 cap1, .slice bd1 m1 dap1] 28
  go_wp2_with fail
  rw [← hw2]
  refine (rof_calls 1 3 _ (by omega) (by omega) (by omega) (by omega) (by omega)).mono ?_
  rintro e w3 ⟨v2, rfl, q2, e2⟩
  obtain ⟨b2, ad2, l2, cap2, bd2, m2, dap2, rfl, q2⟩ := q2.opn
  obtain ⟨w4, hw4, f4, c2, s4⟩ := alloc1 w3 #[.bool b2, .slice ad2 l2 cap2, .slice bd2 m2 dap2] 28
  go_wp2_with fail
  rw [← hw4]
  refine (rof_calls 6 (-4) _ (by omega) (by omega) (by omega) (by omega) (by omega)).mono ?_
  rintro e w5 ⟨v3, rfl, q3, e3⟩
  obtain ⟨b3, ad3, l3, cap3, bd3, m3, dap3, rfl, q3⟩ := q3.opn
  obtain ⟨w6, hw6, f6, c3, s6⟩ := alloc1 w5 #[.bool b3, .slice ad3 l3 cap3, .slice bd3 m3 dap3] 28
  go_wp2_with fail
  rw [← hw6]
  refine (rof_calls (-7) 2 _ (by omega) (by omega) (by omega) (by omega) (by omega)).mono ?_
  rintro e w7 ⟨v4, rfl, q4, e4⟩
  obtain ⟨b4, ad4, l4, cap4, bd4, m4, dap4, rfl, q4⟩ := q4.opn
  obtain ⟨w8, hw8, f8, c4, s8⟩ := alloc1 w7 #[.bool b4, .slice ad4 l4 cap4, .slice bd4 m4 dap4] 28
  go_wp2_with fail
  rw [← hw8]
  have E28 := (e2.trans f4).trans ((e3.trans f6).trans (e4.trans f8))
  have E48 := (e3.trans f6).trans (e4.trans f8)
  have E68 := e4.trans f8
  have E := (e1.trans f2).trans E28
  have C1 := c1.ext E28
  have C2 := c2.ext E48
  have C3 := c3.ext E68
  have R1 := (q1.isR exs.1 lim).ext (f2.trans E28)
  have R2 := (q2.isR exs.2.1 lim).ext (f4.trans E48)
  have R4 := (q4.isR exs.2.2 lim).ext f8
  have Q3 := q3.ext (f6.trans E68)
  rw [ex2] at Q3
  refine wp_region_puts [] [PP.val (.int .i64 0), PP.val (.bool true), PP.val (.bool true), PP.val (.int .i64 0), PP.val (.bool true), PP.val (.bool true), PP.val (.bool true), PP.val (.int .i64 0), PP.val (.bool true), PP.val (.bool true), PP.val (.bool true), PP.val (.agg #[.bool b1, .slice ad1 l1 cap1, .slice bd1 m1 dap1]), PP.val (.agg #[.bool b2, .slice ad2 l2 cap2, .slice bd2 m2 dap2]), PP.frQ (Rat.divInt 1 2), PP.frQ (Rat.divInt 1 2), PP.val (.bool true), PP.val (.bool true), PP.val (.bool true), PP.val (.agg #[.bool b3, .slice ad3 l3 cap3, .slice bd3 m3 dap3]), PP.frQ (Rat.divInt (-3) 2), PP.val (.bool true), PP.val (.bool true), PP.val (.bool true), PP.val (.agg #[.bool b4, .slice ad4 l4 cap4, .slice bd4 m4 dap4]), PP.frZ (-4), PP.frZd (-4), PP.frZ (-4), PP.val (.bool true), PP.val (.bool true), PP.val (.bool true), PP.val (.agg #[.bool b4, .slice ad4 l4 cap4, .slice bd4 m4 dap4]), PP.frZ (-3), PP.frZd (-3), PP.frZ (-3), PP.val (.bool true), PP.val (.bool true), PP.val (.bool true), PP.val (.agg #[.bool b4, .slice ad4 l4 cap4, .slice bd4 m4 dap4]), PP.frQ (Rat.divInt 1 2), PP.frQ (Rat.divInt 1 2), PP.val (.bool true), PP.val (.bool true), PP.val (.bool true), PP.val (.agg #[.bool false, .slice none 0 0, .slice none 0 0]), PP.frQ (Rat.divInt 0 1), PP.frQ (Rat.divInt 0 1), PP.val (.bool true), PP.val (.bool true), PP.val (.bool true)] [] [0, 1, 2, 3, 4, 5, 6, 7, 8, 9, 10, 11, 12, 13, 14, 15, 16, 17, 18, 19, 20, 21, 22, 23, 24, 25, 26, 27, 28, 29, 30, 31, 32, 33, 34, 35, 36, 37, 38, 39, 40, 41, 42, 43, 44, 45, 46, 47, 48]
    (by kernel_rfl) (by kernel_rfl) (fun f => (by simp only [fillR, fillL, List.setIfInBounds_toArray, List.set_cons_succ, List.set_cons_zero, Nat.reduceAdd]; rfl)) ?_ ?_ ?_ ?_ ?_
  · intro x hx; cases hx
  · intro x hx; cases hx
  · intro x hx; cases hx
  · refine ⟨?o0, ?o1, ?o2, ?o3, ?o4, ?o5, ?o6, ?o7, ?o8, ?o9, ?o10, ?o11, ?o12, ?o13, ?o14, ?o15, ?o16, ?o17, ?o18, ?o19, ?o20, ?o21, ?o22, ?o23, ?o24, ?o25, ?o26, ?o27, ?o28, ?o29, ?o30, ?o31, ?o32, ?o33, ?o34, ?o35, ?o36, ?o37, ?o38, ?o39, ?o40, ?o41, ?o42, ?o43, ?o44, ?o45, ?o46, ?o47, ?o48, trivial⟩
    case o0 =>
      intro f w2 hG hp hl
      have hE : Ext w8 w2 := hG
      have hS := hE.size
      simp only [OpGoal]
      go_simp
      exact ⟨_, rfl, Ext.refl _, rfl⟩
    case o1 =>
      intro f w2 hG hp hl
      have hE : Ext w8 w2 := hG
      have hS := hE.size
      have q25 : f 0 = .int .i64 0 := tellV hp 0 0 rfl rfl (fun h => by cases h)
      simp only [OpGoal]
      go_simp
      exact ⟨_, rfl, Ext.refl _, rfl⟩
    case o2 =>
      intro f w2 hG hp hl
      have hE : Ext w8 w2 := hG
      have hS := hE.size
      have q26 : f 1 = .bool true := tellV hp 0 1 rfl rfl (fun h => by cases h)
      simp only [OpGoal]
      go_simp
      exact ⟨_, rfl, Ext.refl _, rfl⟩
    case o3 =>
      intro f w2 hG hp hl
      have hE : Ext w8 w2 := hG
      have hS := hE.size
      have qg : f 2 = .bool true := tellV hp 0 2 rfl rfl (fun h => by cases h)
      change OpGoal _ _ _ f w2 Ext _
      refine og_guard (j := 2) (want := true) rfl qg ?_
      simp only [OpGoal]
      go_simp
      exact ⟨_, rfl, Ext.refl _, rfl⟩
    case o4 =>
      intro f w2 hG hp hl
      have hE : Ext w8 w2 := hG
      have hS := hE.size
      have q28 : f 3 = .int .i64 0 := tellV hp 0 3 rfl rfl (fun h => by cases h)
      have qg : f 2 = .bool true := tellV hp 1 2 rfl rfl (fun h => by cases h)
      change OpGoal _ _ _ f w2 Ext _
      refine og_guard (j := 2) (want := true) rfl qg ?_
      simp only [OpGoal]
      go_simp
      exact ⟨_, rfl, Ext.refl _, rfl⟩
    case o5 =>
      intro f w2 hG hp hl
      have hE : Ext w8 w2 := hG
      have hS := hE.size
      have q27 : f 2 = .bool true := tellV hp 0 2 rfl rfl (fun h => by cases h)
      have q29 : f 4 = .bool true := tellV hp 1 4 rfl rfl (fun h => by cases h)
      simp only [OpGoal]
      go_simp
      exact ⟨_, rfl, Ext.refl _, rfl⟩
    case o6 =>
      intro f w2 hG hp hl
      have hE : Ext w8 w2 := hG
      have hS := hE.size
      have q30 : f 5 = .bool true := tellV hp 0 5 rfl rfl (fun h => by cases h)
      simp only [OpGoal]
      go_simp
      exact ⟨_, rfl, Ext.refl _, rfl⟩
    case o7 =>
      intro f w2 hG hp hl
      have hE : Ext w8 w2 := hG
      have hS := hE.size
      have qg : f 6 = .bool true := tellV hp 0 6 rfl rfl (fun h => by cases h)
      change OpGoal _ _ _ f w2 Ext _
      refine og_guard (j := 6) (want := true) rfl qg ?_
      simp only [OpGoal]
      go_simp
      exact ⟨_, rfl, Ext.refl _, rfl⟩
    case o8 =>
      intro f w2 hG hp hl
      have hE : Ext w8 w2 := hG
      have hS := hE.size
      have q32 : f 7 = .int .i64 0 := tellV hp 0 7 rfl rfl (fun h => by cases h)
      have qg : f 6 = .bool true := tellV hp 1 6 rfl rfl (fun h => by cases h)
      change OpGoal _ _ _ f w2 Ext _
      refine og_guard (j := 6) (want := true) rfl qg ?_
      simp only [OpGoal]
      go_simp
      exact ⟨_, rfl, Ext.refl _, rfl⟩
    case o9 =>
      intro f w2 hG hp hl
      have hE : Ext w8 w2 := hG
      have hS := hE.size
      have q31 : f 6 = .bool true := tellV hp 0 6 rfl rfl (fun h => by cases h)
      have q33 : f 8 = .bool true := tellV hp 1 8 rfl rfl (fun h => by cases h)
      simp only [OpGoal]
      go_simp
      exact ⟨_, rfl, Ext.refl _, rfl⟩
    case o10 =>
      intro f w2 hG hp hl
      have hE : Ext w8 w2 := hG
      have hS := hE.size
      have q34 : f 9 = .bool true := tellV hp 0 9 rfl rfl (fun h => by cases h)
      simp only [OpGoal]
      go_simp
      exact ⟨_, rfl, Ext.refl _, rfl⟩
    case o11 =>
      intro f w2 hG hp hl
      have hE : Ext w8 w2 := hG
      have hS := hE.size
      have qg : f 10 = .bool true := tellV hp 0 10 rfl rfl (fun h => by cases h)
      change OpGoal _ _ _ f w2 Ext _
      refine og_guard (j := 10) (want := true) rfl qg ?_
      change OpGoal _ _ _ f w2 Ext _
      exact og_load (P := Try.prog) _ _ w1.heap.size _ _ _ rfl rfl rfl (C1.ext hE) Try.underlying28 rfl (by kernel_rfl) rfl
    case o12 =>
      intro f w2 hG hp hl
      have hE : Ext w8 w2 := hG
      have hS := hE.size
      have qg : f 10 = .bool true := tellV hp 0 10 rfl rfl (fun h => by cases h)
      change OpGoal _ _ _ f w2 Ext _
      refine og_guard (j := 10) (want := true) rfl qg ?_
      change OpGoal _ _ _ f w2 Ext _
      exact og_load (P := Try.prog) _ _ w3.heap.size _ _ _ rfl rfl rfl (C2.ext hE) Try.underlying28 rfl (by kernel_rfl) rfl
    case o13 =>
      intro f w2 hG hp hl
      have hE : Ext w8 w2 := hG
      have hS := hE.size
      have q36 : f 11 = .agg #[.bool b1, .slice ad1 l1 cap1, .slice bd1 m1 dap1] := tellV hp 0 11 rfl rfl (fun h => by cases h)
      have q37 : f 12 = .agg #[.bool b2, .slice ad2 l2 cap2, .slice bd2 m2 dap2] := tellV hp 1 12 rfl rfl (fun h => by cases h)
      have qg : f 10 = .bool true := tellV hp 2 10 rfl rfl (fun h => by cases h)
      change OpGoal _ _ _ f w2 Ext _
      refine og_guard (j := 10) (want := true) rfl qg ?_
      change OpGoal _ _ _ f w2 Ext _
      refine og_call (P := Try.prog) _ _ _ #[f 11, f 12] Try.func43 (by kernel_rfl) (by kernel_rfl) rfl rfl (by kernel_rfl) ?_
      rw [q36, q37]
      refine (radd_calls _ _ (Rat.divInt 1 6) (Rat.divInt 1 3) 1 1 _ (R1.ext hE) (R2.ext hE) (by omega)).mono ?_
      rintro e w' ⟨v', rfl, h1, _, h2⟩
      rw [ex1] at h1
      exact ⟨v', rfl, h2, h1.mono hS⟩
    case o14 =>
      intro f w2 hG hp hl
      have hE : Ext w8 w2 := hG
      have hS := hE.size
      have qg : f 10 = .bool true := tellV hp 1 10 rfl rfl (fun h => by cases h)
      change OpGoal _ _ _ f w2 Ext _
      refine og_guard (j := 10) (want := true) rfl qg ?_
      change OpGoal _ _ _ f w2 Ext _
      refine og_call (P := Try.prog) _ _ _ #[.int .i64 1, .int .i64 2] Try.func25 (by kernel_rfl) (by kernel_rfl) rfl rfl (by kernel_rfl) ?_
      refine (small_calls 1 2 _ (by omega) (by omega) (by omega) (by omega) (by omega)).mono ?_
      rintro e w' ⟨v', rfl, h1, h2⟩
      exact ⟨v', rfl, h2, h1.mono hS⟩
    case o15 =>
      intro f w2 hG hp hl
      have hE : Ext w8 w2 := hG
      have hS := hE.size
      have q38 := tellV hp 0 13 rfl rfl (fun _ => hE)
      have q39 := tellV hp 1 14 rfl rfl (fun _ => hE)
      have qg : f 10 = .bool true := tellV hp 3 10 rfl rfl (fun h => by cases h)
      change OpGoal _ _ _ f w2 Ext _
      refine og_guard (j := 10) (want := true) rfl qg ?_
      change OpGoal _ _ _ f w2 Ext _
      refine og_call (P := Try.prog) _ _ _ #[f 13, f 14] Try.func16 (by kernel_rfl) (by kernel_rfl) rfl rfl (by kernel_rfl) ?_
      refine (same_true _ _ _ _ _ _ q38 q39).mono ?_
      rintro e w' ⟨rfl, h2⟩
      exact ⟨_, rfl, h2, rfl⟩
    case o16 =>
      intro f w2 hG hp hl
      have hE : Ext w8 w2 := hG
      have hS := hE.size
      have q35 : f 10 = .bool true := tellV hp 0 10 rfl rfl (fun h => by cases h)
      have q40 : f 15 = .bool true := tellV hp 1 15 rfl rfl (fun h => by cases h)
      simp only [OpGoal]
      go_simp
      exact ⟨_, rfl, Ext.refl _, rfl⟩
    case o17 =>
      intro f w2 hG hp hl
      have hE : Ext w8 w2 := hG
      have hS := hE.size
      have q41 : f 16 = .bool true := tellV hp 0 16 rfl rfl (fun h => by cases h)
      simp only [OpGoal]
      go_simp
      exact ⟨_, rfl, Ext.refl _, rfl⟩
    case o18 =>
      intro f w2 hG hp hl
      have hE : Ext w8 w2 := hG
      have hS := hE.size
      have qg : f 17 = .bool true := tellV hp 0 17 rfl rfl (fun h => by cases h)
      change OpGoal _ _ _ f w2 Ext _
      refine og_guard (j := 17) (want := true) rfl qg ?_
      change OpGoal _ _ _ f w2 Ext _
      exact og_load (P := Try.prog) _ _ w5.heap.size _ _ _ rfl rfl rfl (C3.ext hE) Try.underlying28 rfl (by kernel_rfl) rfl
    case o19 =>
      intro f w2 hG hp hl
      have hE : Ext w8 w2 := hG
      have hS := hE.size
      have qg : f 17 = .bool true := tellV hp 0 17 rfl rfl (fun h => by cases h)
      change OpGoal _ _ _ f w2 Ext _
      refine og_guard (j := 17) (want := true) rfl qg ?_
      change OpGoal _ _ _ f w2 Ext _
      refine og_call (P := Try.prog) _ _ _ #[.int .i64 (-3), .int .i64 2] Try.func25 (by kernel_rfl) (by kernel_rfl) rfl rfl (by kernel_rfl) ?_
      refine (small_calls (-3) 2 _ (by omega) (by omega) (by omega) (by omega) (by omega)).mono ?_
      rintro e w' ⟨v', rfl, h1, h2⟩
      exact ⟨v', rfl, h2, h1.mono hS⟩
    case o20 =>
      intro f w2 hG hp hl
      have hE : Ext w8 w2 := hG
      have hS := hE.size
      have q43 : f 18 = .agg #[.bool b3, .slice ad3 l3 cap3, .slice bd3 m3 dap3] := tellV hp 0 18 rfl rfl (fun h => by cases h)
      have q44 := tellV hp 1 19 rfl rfl (fun _ => hE)
      have qg : f 17 = .bool true := tellV hp 3 17 rfl rfl (fun h => by cases h)
      change OpGoal _ _ _ f w2 Ext _
      refine og_guard (j := 17) (want := true) rfl qg ?_
      change OpGoal _ _ _ f w2 Ext _
      refine og_call (P := Try.prog) _ _ _ #[f 18, f 19] Try.func16 (by kernel_rfl) (by kernel_rfl) rfl rfl (by kernel_rfl) ?_
      rw [q43]
      refine (same_true _ _ _ _ _ _ (Q3.ext hE) q44).mono ?_
      rintro e w' ⟨rfl, h2⟩
      exact ⟨_, rfl, h2, rfl⟩
    case o21 =>
      intro f w2 hG hp hl
      have hE : Ext w8 w2 := hG
      have hS := hE.size
      have q42 : f 17 = .bool true := tellV hp 0 17 rfl rfl (fun h => by cases h)
      have q45 : f 20 = .bool true := tellV hp 1 20 rfl rfl (fun h => by cases h)
      simp only [OpGoal]
      go_simp
      exact ⟨_, rfl, Ext.refl _, rfl⟩
    case o22 =>
      intro f w2 hG hp hl
      have hE : Ext w8 w2 := hG
      have hS := hE.size
      have q46 : f 21 = .bool true := tellV hp 0 21 rfl rfl (fun h => by cases h)
      simp only [OpGoal]
      go_simp
      exact ⟨_, rfl, Ext.refl _, rfl⟩
    case o23 =>
      intro f w2 hG hp hl
      have hE : Ext w8 w2 := hG
      have hS := hE.size
      have qg : f 22 = .bool true := tellV hp 0 22 rfl rfl (fun h => by cases h)
      change OpGoal _ _ _ f w2 Ext _
      refine og_guard (j := 22) (want := true) rfl qg ?_
      change OpGoal _ _ _ f w2 Ext _
      exact og_load (P := Try.prog) _ _ w7.heap.size _ _ _ rfl rfl rfl (c4.ext hE) Try.underlying28 rfl (by kernel_rfl) rfl
    case o24 =>
      intro f w2 hG hp hl
      have hE : Ext w8 w2 := hG
      have hS := hE.size
      have q48 : f 23 = .agg #[.bool b4, .slice ad4 l4 cap4, .slice bd4 m4 dap4] := tellV hp 0 23 rfl rfl (fun h => by cases h)
      have qg : f 22 = .bool true := tellV hp 1 22 rfl rfl (fun h => by cases h)
      change OpGoal _ _ _ f w2 Ext _
      refine og_guard (j := 22) (want := true) rfl qg ?_
      change OpGoal _ _ _ f w2 Ext _
      refine og_call (P := Try.prog) _ _ _ #[f 23] Try.func29 (by kernel_rfl) (by kernel_rfl) rfl rfl (by kernel_rfl) ?_
      rw [q48]
      refine (rfloor_calls _ (Rat.divInt (-7) 2) 1 _ (R4.ext hE) (by omega)).mono ?_
      rintro e w' ⟨v', rfl, h1, _, h2⟩
      rw [ex3] at h1
      exact ⟨v', rfl, h2, h1.mono hS⟩
    case o25 =>
      intro f w2 hG hp hl
      have hE : Ext w8 w2 := hG
      have hS := hE.size
      have qg : f 22 = .bool true := tellV hp 1 22 rfl rfl (fun h => by cases h)
      change OpGoal _ _ _ f w2 Ext _
      refine og_guard (j := 22) (want := true) rfl qg ?_
      change OpGoal _ _ _ f w2 Ext _
      refine og_call (P := Try.prog) _ _ _ #[.int .i64 (-4)] Try.func53 (by kernel_rfl) (by kernel_rfl) rfl rfl (by kernel_rfl) ?_
      refine (zsmall2_calls (-4) _ (by omega) (by omega)).mono ?_
      rintro e w' ⟨v', rfl, h1, h2⟩
      exact ⟨v', rfl, h2, h1.mono hS⟩
    case o26 =>
      intro f w2 hG hp hl
      have hE : Ext w8 w2 := hG
      have hS := hE.size
      have q50 := tellV hp 0 25 rfl rfl (fun _ => hE)
      have qg : f 22 = .bool true := tellV hp 2 22 rfl rfl (fun h => by cases h)
      change OpGoal _ _ _ f w2 Ext _
      refine og_guard (j := 22) (want := true) rfl qg ?_
      change OpGoal _ _ _ f w2 Ext _
      refine og_call (P := Try.prog) _ _ _ #[f 25] Try.func32 (by kernel_rfl) (by kernel_rfl) rfl rfl (by kernel_rfl) ?_
      refine (zto2_calls _ (-4) _ q50.cz (Nat.le_trans (szT_small (by omega)) (by omega))).mono ?_
      rintro e w' ⟨v', rfl, h1, h2⟩
      exact ⟨v', rfl, h2, h1.mono hS⟩
    case o27 =>
      intro f w2 hG hp hl
      have hE : Ext w8 w2 := hG
      have hS := hE.size
      have q49 := tellV hp 0 24 rfl rfl (fun _ => hE)
      have q51 := tellV hp 1 26 rfl rfl (fun _ => hE)
      have qg : f 22 = .bool true := tellV hp 3 22 rfl rfl (fun h => by cases h)
      change OpGoal _ _ _ f w2 Ext _
      refine og_guard (j := 22) (want := true) rfl qg ?_
      change OpGoal _ _ _ f w2 Ext _
      refine og_call (P := Try.prog) _ _ _ #[f 24, f 26] Try.func19 (by kernel_rfl) (by kernel_rfl) rfl rfl (by kernel_rfl) ?_
      refine (zsame_true _ _ _ _ _ _ q49 q51).mono ?_
      rintro e w' ⟨rfl, h2⟩
      exact ⟨_, rfl, h2, rfl⟩
    case o28 =>
      intro f w2 hG hp hl
      have hE : Ext w8 w2 := hG
      have hS := hE.size
      have q47 : f 22 = .bool true := tellV hp 0 22 rfl rfl (fun h => by cases h)
      have q52 : f 27 = .bool true := tellV hp 1 27 rfl rfl (fun h => by cases h)
      simp only [OpGoal]
      go_simp
      exact ⟨_, rfl, Ext.refl _, rfl⟩
    case o29 =>
      intro f w2 hG hp hl
      have hE : Ext w8 w2 := hG
      have hS := hE.size
      have q53 : f 28 = .bool true := tellV hp 0 28 rfl rfl (fun h => by cases h)
      simp only [OpGoal]
      go_simp
      exact ⟨_, rfl, Ext.refl _, rfl⟩
    case o30 =>
      intro f w2 hG hp hl
      have hE : Ext w8 w2 := hG
      have hS := hE.size
      have qg : f 29 = .bool true := tellV hp 0 29 rfl rfl (fun h => by cases h)
      change OpGoal _ _ _ f w2 Ext _
      refine og_guard (j := 29) (want := true) rfl qg ?_
      change OpGoal _ _ _ f w2 Ext _
      exact og_load (P := Try.prog) _ _ w7.heap.size _ _ _ rfl rfl rfl (c4.ext hE) Try.underlying28 rfl (by kernel_rfl) rfl
    case o31 =>
      intro f w2 hG hp hl
      have hE : Ext w8 w2 := hG
      have hS := hE.size
      have q55 : f 30 = .agg #[.bool b4, .slice ad4 l4 cap4, .slice bd4 m4 dap4] := tellV hp 0 30 rfl rfl (fun h => by cases h)
      have qg : f 29 = .bool true := tellV hp 1 29 rfl rfl (fun h => by cases h)
      change OpGoal _ _ _ f w2 Ext _
      refine og_guard (j := 29) (want := true) rfl qg ?_
      change OpGoal _ _ _ f w2 Ext _
      refine og_call (P := Try.prog) _ _ _ #[f 30] Try.func30 (by kernel_rfl) (by kernel_rfl) rfl rfl (by kernel_rfl) ?_
      rw [q55]
      refine (rceil_calls _ (Rat.divInt (-7) 2) 1 _ (R4.ext hE) (by omega)).mono ?_
      rintro e w' ⟨v', rfl, h1, _, h2⟩
      rw [ex4] at h1
      exact ⟨v', rfl, h2, h1.mono hS⟩
    case o32 =>
      intro f w2 hG hp hl
      have hE : Ext w8 w2 := hG
      have hS := hE.size
      have qg : f 29 = .bool true := tellV hp 1 29 rfl rfl (fun h => by cases h)
      change OpGoal _ _ _ f w2 Ext _
      refine og_guard (j := 29) (want := true) rfl qg ?_
      change OpGoal _ _ _ f w2 Ext _
      refine og_call (P := Try.prog) _ _ _ #[.int .i64 (-3)] Try.func53 (by kernel_rfl) (by kernel_rfl) rfl rfl (by kernel_rfl) ?_
      refine (zsmall2_calls (-3) _ (by omega) (by omega)).mono ?_
      rintro e w' ⟨v', rfl, h1, h2⟩
      exact ⟨v', rfl, h2, h1.mono hS⟩
    case o33 =>
      intro f w2 hG hp hl
      have hE : Ext w8 w2 := hG
      have hS := hE.size
      have q57 := tellV hp 0 32 rfl rfl (fun _ => hE)
      have qg : f 29 = .bool true := tellV hp 2 29 rfl rfl (fun h => by cases h)
      change OpGoal _ _ _ f w2 Ext _
      refine og_guard (j := 29) (want := true) rfl qg ?_
      change OpGoal _ _ _ f w2 Ext _
      refine og_call (P := Try.prog) _ _ _ #[f 32] Try.func32 (by kernel_rfl) (by kernel_rfl) rfl rfl (by kernel_rfl) ?_
      refine (zto2_calls _ (-3) _ q57.cz (Nat.le_trans (szT_small (by omega)) (by omega))).mono ?_
      rintro e w' ⟨v', rfl, h1, h2⟩
      exact ⟨v', rfl, h2, h1.mono hS⟩
    case o34 =>
      intro f w2 hG hp hl
      have hE : Ext w8 w2 := hG
      have hS := hE.size
      have q56 := tellV hp 0 31 rfl rfl (fun _ => hE)
      have q58 := tellV hp 1 33 rfl rfl (fun _ => hE)
      have qg : f 29 = .bool true := tellV hp 3 29 rfl rfl (fun h => by cases h)
      change OpGoal _ _ _ f w2 Ext _
      refine og_guard (j := 29) (want := true) rfl qg ?_
      change OpGoal _ _ _ f w2 Ext _
      refine og_call (P := Try.prog) _ _ _ #[f 31, f 33] Try.func19 (by kernel_rfl) (by kernel_rfl) rfl rfl (by kernel_rfl) ?_
      refine (zsame_true _ _ _ _ _ _ q56 q58).mono ?_
      rintro e w' ⟨rfl, h2⟩
      exact ⟨_, rfl, h2, rfl⟩
    case o35 =>
      intro f w2 hG hp hl
      have hE : Ext w8 w2 := hG
      have hS := hE.size
      have q54 : f 29 = .bool true := tellV hp 0 29 rfl rfl (fun h => by cases h)
      have q59 : f 34 = .bool true := tellV hp 1 34 rfl rfl (fun h => by cases h)
      simp only [OpGoal]
      go_simp
      exact ⟨_, rfl, Ext.refl _, rfl⟩
    case o36 =>
      intro f w2 hG hp hl
      have hE : Ext w8 w2 := hG
      have hS := hE.size
      have q60 : f 35 = .bool true := tellV hp 0 35 rfl rfl (fun h => by cases h)
      simp only [OpGoal]
      go_simp
      exact ⟨_, rfl, Ext.refl _, rfl⟩
    case o37 =>
      intro f w2 hG hp hl
      have hE : Ext w8 w2 := hG
      have hS := hE.size
      have qg : f 36 = .bool true := tellV hp 0 36 rfl rfl (fun h => by cases h)
      change OpGoal _ _ _ f w2 Ext _
      refine og_guard (j := 36) (want := true) rfl qg ?_
      change OpGoal _ _ _ f w2 Ext _
      exact og_load (P := Try.prog) _ _ w7.heap.size _ _ _ rfl rfl rfl (c4.ext hE) Try.underlying28 rfl (by kernel_rfl) rfl
    case o38 =>
      intro f w2 hG hp hl
      have hE : Ext w8 w2 := hG
      have hS := hE.size
      have q62 : f 37 = .agg #[.bool b4, .slice ad4 l4 cap4, .slice bd4 m4 dap4] := tellV hp 0 37 rfl rfl (fun h => by cases h)
      have qg : f 36 = .bool true := tellV hp 1 36 rfl rfl (fun h => by cases h)
      change OpGoal _ _ _ f w2 Ext _
      refine og_guard (j := 36) (want := true) rfl qg ?_
      change OpGoal _ _ _ f w2 Ext _
      refine og_call (P := Try.prog) _ _ _ #[f 37] Try.func31 (by kernel_rfl) (by kernel_rfl) rfl rfl (by kernel_rfl) ?_
      rw [q62]
      refine (rfrac_calls _ (Rat.divInt (-7) 2) 1 _ (R4.ext hE) (by omega)).mono ?_
      rintro e w' ⟨v', rfl, h1, _, h2⟩
      rw [ex5] at h1
      exact ⟨v', rfl, h2, h1.mono hS⟩
    case o39 =>
      intro f w2 hG hp hl
      have hE : Ext w8 w2 := hG
      have hS := hE.size
      have qg : f 36 = .bool true := tellV hp 1 36 rfl rfl (fun h => by cases h)
      change OpGoal _ _ _ f w2 Ext _
      refine og_guard (j := 36) (want := true) rfl qg ?_
      change OpGoal _ _ _ f w2 Ext _
      refine og_call (P := Try.prog) _ _ _ #[.int .i64 1, .int .i64 2] Try.func25 (by kernel_rfl) (by kernel_rfl) rfl rfl (by kernel_rfl) ?_
      refine (small_calls 1 2 _ (by omega) (by omega) (by omega) (by omega) (by omega)).mono ?_
      rintro e w' ⟨v', rfl, h1, h2⟩
      exact ⟨v', rfl, h2, h1.mono hS⟩
    case o40 =>
      intro f w2 hG hp hl
      have hE : Ext w8 w2 := hG
      have hS := hE.size
      have q63 := tellV hp 0 38 rfl rfl (fun _ => hE)
      have q64 := tellV hp 1 39 rfl rfl (fun _ => hE)
      have qg : f 36 = .bool true := tellV hp 3 36 rfl rfl (fun h => by cases h)
      change OpGoal _ _ _ f w2 Ext _
      refine og_guard (j := 36) (want := true) rfl qg ?_
      change OpGoal _ _ _ f w2 Ext _
      refine og_call (P := Try.prog) _ _ _ #[f 38, f 39] Try.func16 (by kernel_rfl) (by kernel_rfl) rfl rfl (by kernel_rfl) ?_
      refine (same_true _ _ _ _ _ _ q63 q64).mono ?_
      rintro e w' ⟨rfl, h2⟩
      exact ⟨_, rfl, h2, rfl⟩
    case o41 =>
      intro f w2 hG hp hl
      have hE : Ext w8 w2 := hG
      have hS := hE.size
      have q61 : f 36 = .bool true := tellV hp 0 36 rfl rfl (fun h => by cases h)
      have q65 : f 40 = .bool true := tellV hp 1 40 rfl rfl (fun h => by cases h)
      simp only [OpGoal]
      go_simp
      exact ⟨_, rfl, Ext.refl _, rfl⟩
    case o42 =>
      intro f w2 hG hp hl
      have hE : Ext w8 w2 := hG
      have hS := hE.size
      have q66 : f 41 = .bool true := tellV hp 0 41 rfl rfl (fun h => by cases h)
      simp only [OpGoal]
      go_simp
      exact ⟨_, rfl, Ext.refl _, rfl⟩
    case o43 =>
      intro f w2 hG hp hl
      have hE : Ext w8 w2 := hG
      have hS := hE.size
      have qg : f 42 = .bool true := tellV hp 0 42 rfl rfl (fun h => by cases h)
      change OpGoal _ _ _ f w2 Ext _
      refine og_guard (j := 42) (want := true) rfl qg ?_
      simp only [OpGoal]
      go_simp
      exact ⟨_, rfl, Ext.refl _, rfl⟩
    case o44 =>
      intro f w2 hG hp hl
      have hE : Ext w8 w2 := hG
      have hS := hE.size
      have q68 : f 43 = .agg #[.bool false, .slice none 0 0, .slice none 0 0] := tellV hp 0 43 rfl rfl (fun h => by cases h)
      have qg : f 42 = .bool true := tellV hp 1 42 rfl rfl (fun h => by cases h)
      change OpGoal _ _ _ f w2 Ext _
      refine og_guard (j := 42) (want := true) rfl qg ?_
      change OpGoal _ _ _ f w2 Ext _
      refine og_call (P := Try.prog) _ _ _ #[f 43] Try.func44 (by kernel_rfl) (by kernel_rfl) rfl rfl (by kernel_rfl) ?_
      rw [q68]
      refine (form_calls _ 0 1 _ (zeroQ.isR _) (by omega)).mono ?_
      rintro e w' ⟨v', rfl, h1, h2⟩
      rw [ex6] at h1
      exact ⟨v', rfl, h2, h1.mono hS⟩
    case o45 =>
      intro f w2 hG hp hl
      have hE : Ext w8 w2 := hG
      have hS := hE.size
      have qg : f 42 = .bool true := tellV hp 1 42 rfl rfl (fun h => by cases h)
      change OpGoal _ _ _ f w2 Ext _
      refine og_guard (j := 42) (want := true) rfl qg ?_
      change OpGoal _ _ _ f w2 Ext _
      refine og_call (P := Try.prog) _ _ _ #[.int .i64 0, .int .i64 1] Try.func25 (by kernel_rfl) (by kernel_rfl) rfl rfl (by kernel_rfl) ?_
      refine (small_calls 0 1 _ (by omega) (by omega) (by omega) (by omega) (by omega)).mono ?_
      rintro e w' ⟨v', rfl, h1, h2⟩
      exact ⟨v', rfl, h2, h1.mono hS⟩
    case o46 =>
      intro f w2 hG hp hl
      have hE : Ext w8 w2 := hG
      have hS := hE.size
      have q69 := tellV hp 0 44 rfl rfl (fun _ => hE)
      have q70 := tellV hp 1 45 rfl rfl (fun _ => hE)
      have qg : f 42 = .bool true := tellV hp 3 42 rfl rfl (fun h => by cases h)
      change OpGoal _ _ _ f w2 Ext _
      refine og_guard (j := 42) (want := true) rfl qg ?_
      change OpGoal _ _ _ f w2 Ext _
      refine og_call (P := Try.prog) _ _ _ #[f 44, f 45] Try.func16 (by kernel_rfl) (by kernel_rfl) rfl rfl (by kernel_rfl) ?_
      refine (same_true _ _ _ _ _ _ q69 q70).mono ?_
      rintro e w' ⟨rfl, h2⟩
      exact ⟨_, rfl, h2, rfl⟩
    case o47 =>
      intro f w2 hG hp hl
      have hE : Ext w8 w2 := hG
      have hS := hE.size
      have q67 : f 42 = .bool true := tellV hp 0 42 rfl rfl (fun h => by cases h)
      have q71 : f 46 = .bool true := tellV hp 1 46 rfl rfl (fun h => by cases h)
      simp only [OpGoal]
      go_simp
      exact ⟨_, rfl, Ext.refl _, rfl⟩
    case o48 =>
      intro f w2 hG hp hl
      have hE : Ext w8 w2 := hG
      have hS := hE.size
      have q72 : f 47 = .bool true := tellV hp 0 47 rfl rfl (fun h => by cases h)
      simp only [OpGoal]
      go_simp
      exact ⟨_, rfl, Ext.refl _, rfl⟩
  · intro f w2 hG hp
    have hE : Ext w8 w2 := ChgS.nil hG
    have q0 : f 48 = .bool true := endV hp 48 (by decide) rfl (fun h => by cases h)
    try simp only [q0]
    clear hp
    go_wp2
    go_ret
    exact ⟨rfl, E.trans hE⟩
end Go.Proofs.Ytnefipinicfegaa
