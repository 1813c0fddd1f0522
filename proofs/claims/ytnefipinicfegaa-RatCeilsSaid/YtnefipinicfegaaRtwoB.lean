/-
  The document's whole numbers, walked (II).
-/
import Derived.Test.YtnefipinicfegaaRtwoA
namespace Go.Proofs.Ytnefipinicfegaa
open Go.RowKit
set_option linter.unusedVariables false
set_option linter.unusedSimpArgs false

set_option maxRecDepth 100000 in
set_option maxHeartbeats 1000000 in
theorem CZ.parts {w : World} {v : Value} {z : Int} (h : CZ w v z) : ∃ b s n, v = .agg #[.bool b, s] ∧ IsC .i64 TK w s n ∧ z = sgn b n := by
  obtain ⟨s, h1, h2⟩ := h
  exact ⟨_, s, _, h1, h2, (sgn_self z).symm⟩
set_option maxRecDepth 100000 in
set_option maxHeartbeats 1000000 in
theorem szT_add (x y : Int) : szT (x + y) ≤ max (szT x) (szT y) + 1 := by
  unfold szT
  exact Nat.le_trans (dg_len_mono TK_gt (Int.natAbs_add_le x y)) (dg_len_add TK_gt _ _)
set_option maxRecDepth 100000 in
set_option maxHeartbeats 1000000 in
theorem szT_mul (x y : Int) : szT (x * y) ≤ szT x + szT y := by
  unfold szT
  rw [Int.natAbs_mul]
  exact dg_len_mul TK_gt _ _
set_option maxRecDepth 100000 in
set_option maxHeartbeats 1000000 in
theorem szT_neg (x : Int) : szT (-x) = szT x := by unfold szT; rw [Int.natAbs_neg]
set_option maxRecDepth 100000 in
set_option maxHeartbeats 1000000 in
theorem szT_sgn (b : Bool) (n : Nat) : szT (sgn b n) = sz TK n := by unfold szT; rw [sgn_natAbs]

set_option maxRecDepth 100000 in
set_option maxHeartbeats 1000000 in
theorem zto2_calls (v : Value) (z : Int) (w : World) (hv : CZ w v z) (hsz : szT z ≤ 68719476736) :
    Calls Try.prog 32 #[v] w fun e w' => ∃ v', e = .returned v' ∧ FrZ w.heap.size w' v' z ∧ Ext w w' := by
  obtain ⟨s, rfl, hs⟩ := hv
  unfold szT at hsz
  go_enter Try.func32, Try.ntmps32
  go_wp2_with fail
  obtain ⟨w1, hw1, e1, b1, b2, s1⟩ := alloc2 w #[.bool (decide (z < 0)), s] #[.bool false, .slice none 0 0] 34 24
  rw [← hw1]
  clear hw1
  refine wp_region_puts [⟨6, (w.heap.size + 1), 24, PP.frZ z⟩] [PP.val (.pointer (some ⟨w.heap.size, 0, none⟩)), PP.val (.bool (decide (z < 0))), PP.val (.pointer (some ⟨w.heap.size, 1, none⟩)), PP.val (s), PP.frN 79 .u64 W z.natAbs, PP.frZ z, PP.any] [] [6, 5, 4, 3, 2, 1, 0]
    (by kernel_rfl) (by kernel_rfl) (fun f => (by simp only [fillR, fillL, List.setIfInBounds_toArray, List.set_cons_succ, List.set_cons_zero, Nat.reduceAdd]; rfl)) ?_ ?_ ?_ ?_ ?_
  · intro x hx; simp only [List.mem_singleton] at hx; subst hx; exact ⟨by show (w.heap.size + 1) < w1.heap.size; omega, rfl⟩
  · intro x hx; simp only [List.mem_singleton] at hx; subst hx; rfl
  · intro x hx y hy h; simp only [List.mem_singleton] at hx hy; subst hx hy; exact absurd rfl h
  · refine ⟨?o0, ?o1, ?o2, ?o3, ?o4, ?o5, ?o6, trivial⟩
    case o0 =>
      intro f w2 hG hp hl
      have hE : Ext w1 w2 := hG
      have hS := hE.size
      simp only [OpGoal]
      go_simp
      exact ⟨_, rfl, Ext.refl _, rfl⟩
    case o1 =>
      intro f w2 hG hp hl
      have hE : Ext w1 w2 := hG
      have hS := hE.size
      have q3 : f 0 = .pointer (some ⟨w.heap.size, 0, none⟩) := tellV hp 0 0 rfl rfl (fun h => by cases h)
      have hcell := (b1.ext hE).cell 0
      simp only [OpGoal]
      go_simp
      exact ⟨_, rfl, Ext.refl _, rfl⟩
    case o2 =>
      intro f w2 hG hp hl
      have hE : Ext w1 w2 := hG
      have hS := hE.size
      simp only [OpGoal]
      go_simp
      exact ⟨_, rfl, Ext.refl _, rfl⟩
    case o3 =>
      intro f w2 hG hp hl
      have hE : Ext w1 w2 := hG
      have hS := hE.size
      have q5 : f 2 = .pointer (some ⟨w.heap.size, 1, none⟩) := tellV hp 0 2 rfl rfl (fun h => by cases h)
      have hcell := (b1.ext hE).cell 1
      simp only [OpGoal]
      go_simp
      exact ⟨_, rfl, Ext.refl _, rfl⟩
    case o4 =>
      intro f w2 hG hp hl
      have hE : Ext w1 w2 := hG
      have hS := hE.size
      have q6 : f 3 = s := tellV hp 0 3 rfl rfl (fun h => by cases h)
      change OpGoal _ _ _ f w2 Ext _
      refine og_call (P := Try.prog) _ _ _ #[f 3] Try.func62 (by kernel_rfl) (by kernel_rfl) rfl rfl (by kernel_rfl) ?_
      rw [q6]
      refine (rto01_calls _ z.natAbs _ ((hs.isN TK_gt (by (first | rw [LIM_eq] | rw [LIM_eqT]); omega)).ext (e1.trans hE)) hsz).mono ?_
      rintro e w' ⟨v', rfl, h1, h2⟩
      exact ⟨v', rfl, h2, h1.mono hS⟩
    case o5 =>
      intro f w2 hG hp hl
      have hE : Ext w1 w2 := hG
      have hS := hE.size
      have q4 : f 1 = .bool (decide (z < 0)) := tellV hp 0 1 rfl rfl (fun h => by cases h)
      have q7 := tellV hp 1 4 rfl rfl (fun _ => hE)
      obtain ⟨ad, cap, hv⟩ := FrN.slice q7
      simp only [OpGoal]
      go_simp
      exact ⟨_, rfl, Ext.refl _, _, rfl, hv ▸ q7⟩
    case o6 =>
      intro f w2 hG hp hl
      have hE : Ext w1 w2 := hG
      have hS := hE.size
      have q8 := tellV hp 0 5 rfl rfl (fun _ => hE)
      intro hg0
      change OpGoal _ _ _ f w2 (Chg _) _
      obtain ⟨s', hv, hn⟩ := q8
      exact og_store (P := Try.prog) _ _ _ (w.heap.size + 1) _ _ _ (PP.frZ _ : PP _).p rfl rfl rfl hv (show Bx 24 w2 _ _ from hg0.trans b2) (by kernel_rfl) rfl (all2 rfl hn.oneCell) (fun w' h => ⟨s', rfl, hn.chg h (by omega)⟩)
  · intro f w2 hG hp
    obtain ⟨cs0, hbx0, hz0⟩ : ∃ cs, Bx 24 w2 (w.heap.size + 1) cs ∧ (PP.frZ z : PP w1.heap.size).p (.agg cs) w2 := endS hp 6 (by decide)
    clear hp
    have hz1 := hz0.mono (show w.heap.size ≤ _ by omega)
    obtain ⟨s', hv, hn⟩ := hz0
    cases hv
    go_wp2
    refine ret_box 2 24 (w.heap.size + 1) 24 _ _ (by kernel_rfl) rfl hbx0 Try.underlying24 rfl (by kernel_rfl) rfl ?_
    exact ⟨_, rfl, hz1, e1.stepS hG (by simp)⟩

set_option maxRecDepth 100000 in
set_option maxHeartbeats 1000000 in
theorem zadd2_calls (v u : Value) (x y : Int) (w : World) (hv : CZ w v x) (hu : CZ w u y) (hsx : szT x ≤ 68719476736) (hsy : szT y ≤ 68719476736) :
    Calls Try.prog 78 #[v, u] w fun e w' => ∃ v', e = .returned v' ∧ FrZd w.heap.size w' v' (x + y) ∧ Ext w w' := by
  obtain ⟨b, s, n, rfl, hs, rfl⟩ := hv.parts
  obtain ⟨c, t, m, rfl, ht, rfl⟩ := hu.parts
  rw [szT_sgn] at hsx hsy
  clear hv hu
  have hsN := hs.isN TK_gt (by (first | rw [LIM_eq] | rw [LIM_eqT]); omega)
  have htN := ht.isN TK_gt (by (first | rw [LIM_eq] | rw [LIM_eqT]); omega)
  go_enter Try.func78, Try.ntmps78
  by_cases hbc : b = c
  · subst hbc
    go_wp2_with fail
    obtain ⟨w1, hw1, e1, b1, b2, b3, s1⟩ := alloc3 w #[.bool b, s] #[.bool b, t] #[.bool false, .slice none 0 0] 34 34 34
    rw [← hw1]
    clear hw1
    refine wp_region_puts [⟨8, (w.heap.size + 2), 34, PP.frZd (sgn b (n + m))⟩] [PP.val (.pointer (some ⟨w.heap.size, 0, none⟩)), PP.val (.bool b), PP.val (.pointer (some ⟨w.heap.size, 1, none⟩)), PP.val (s), PP.val (.pointer (some ⟨(w.heap.size + 1), 1, none⟩)), PP.val (t), PP.frN 3 .i64 TK (n + m), PP.frZd (sgn b (n + m)), PP.any] [] [8, 7, 6, 5, 4, 3, 2, 1, 0]
      (by kernel_rfl) (by kernel_rfl) (fun f => (by simp only [fillR, fillL, List.setIfInBounds_toArray, List.set_cons_succ, List.set_cons_zero, Nat.reduceAdd]; rfl)) ?_ ?_ ?_ ?_ ?_
    · intro x hx; simp only [List.mem_singleton] at hx; subst hx; exact ⟨by show (w.heap.size + 2) < w1.heap.size; omega, rfl⟩
    · intro x hx; simp only [List.mem_singleton] at hx; subst hx; rfl
    · intro x hx y hy h; simp only [List.mem_singleton] at hx hy; subst hx hy; exact absurd rfl h
    · refine ⟨?o0, ?o1, ?o2, ?o3, ?o4, ?o5, ?o6, ?o7, ?o8, trivial⟩
      case o0 =>
        intro f w2 hG hp hl
        have hE : Ext w1 w2 := hG
        have hS := hE.size
        simp only [OpGoal]
        go_simp
        exact ⟨_, rfl, Ext.refl _, rfl⟩
      case o1 =>
        intro f w2 hG hp hl
        have hE : Ext w1 w2 := hG
        have hS := hE.size
        have q10 : f 0 = .pointer (some ⟨w.heap.size, 0, none⟩) := tellV hp 0 0 rfl rfl (fun h => by cases h)
        have hcell := (b1.ext hE).cell 0
        simp only [OpGoal]
        go_simp
        exact ⟨_, rfl, Ext.refl _, rfl⟩
      case o2 =>
        intro f w2 hG hp hl
        have hE : Ext w1 w2 := hG
        have hS := hE.size
        simp only [OpGoal]
        go_simp
        exact ⟨_, rfl, Ext.refl _, rfl⟩
      case o3 =>
        intro f w2 hG hp hl
        have hE : Ext w1 w2 := hG
        have hS := hE.size
        have q12 : f 2 = .pointer (some ⟨w.heap.size, 1, none⟩) := tellV hp 0 2 rfl rfl (fun h => by cases h)
        have hcell := (b1.ext hE).cell 1
        simp only [OpGoal]
        go_simp
        exact ⟨_, rfl, Ext.refl _, rfl⟩
      case o4 =>
        intro f w2 hG hp hl
        have hE : Ext w1 w2 := hG
        have hS := hE.size
        simp only [OpGoal]
        go_simp
        exact ⟨_, rfl, Ext.refl _, rfl⟩
      case o5 =>
        intro f w2 hG hp hl
        have hE : Ext w1 w2 := hG
        have hS := hE.size
        have q14 : f 4 = .pointer (some ⟨(w.heap.size + 1), 1, none⟩) := tellV hp 0 4 rfl rfl (fun h => by cases h)
        have hcell := (b2.ext hE).cell 1
        simp only [OpGoal]
        go_simp
        exact ⟨_, rfl, Ext.refl _, rfl⟩
      case o6 =>
        intro f w2 hG hp hl
        have hE : Ext w1 w2 := hG
        have hS := hE.size
        have q13 : f 3 = s := tellV hp 0 3 rfl rfl (fun h => by cases h)
        have q15 : f 5 = t := tellV hp 1 5 rfl rfl (fun h => by cases h)
        change OpGoal _ _ _ f w2 Ext _
        refine og_call (P := Try.prog) _ _ _ #[f 3, f 5] Try.func83 (by kernel_rfl) (by kernel_rfl) rfl rfl (by kernel_rfl) ?_
        rw [q13, q15]
        refine (radd01_calls _ _ n m _ (hsN.ext (e1.trans hE)) (htN.ext (e1.trans hE)) hsx hsy).mono ?_
        rintro e w' ⟨v', rfl, h1, h2⟩
        exact ⟨v', rfl, h2, h1.mono hS⟩
      case o7 =>
        intro f w2 hG hp hl
        have hE : Ext w1 w2 := hG
        have hS := hE.size
        have q11 : f 1 = .bool b := tellV hp 0 1 rfl rfl (fun h => by cases h)
        have q16 := tellV hp 1 6 rfl rfl (fun _ => hE)
        change OpGoal _ _ _ f w2 Ext _
        refine og_call (P := Try.prog) _ _ _ #[f 1, f 6] Try.func58 (by kernel_rfl) (by kernel_rfl) rfl rfl (by kernel_rfl) ?_
        rw [q11]
        refine (form_calls2 _ _ _ _ (q16.isC.isN TK_gt (Nat.le_trans (dg_len_add TK_gt n m) (by unfold sz at hsx hsy; (first | rw [LIM_eq] | rw [LIM_eqT]); omega)))).mono ?_
        rintro e w' ⟨v', rfl, h1, h2⟩
        exact ⟨v', rfl, h2, h1.mono hS⟩
      case o8 =>
        intro f w2 hG hp hl
        have hE : Ext w1 w2 := hG
        have hS := hE.size
        have q17 := tellV hp 0 7 rfl rfl (fun _ => hE)
        intro hg0
        change OpGoal _ _ _ f w2 (Chg _) _
        obtain ⟨s', hv, hn⟩ := q17
        exact og_store (P := Try.prog) _ _ _ (w.heap.size + 2) _ _ _ (PP.frZd _ : PP _).p rfl rfl rfl hv (show Bx 34 w2 _ _ from hg0.trans b3) (by kernel_rfl) rfl (all2 rfl hn.oneCell) (fun w' h => ⟨s', rfl, hn.chg h (by omega)⟩)
    · intro f w2 hG hp
      obtain ⟨cs0, hbx0, hz0⟩ : ∃ cs, Bx 34 w2 (w.heap.size + 2) cs ∧ (PP.frZd (sgn b (n + m)) : PP w1.heap.size).p (.agg cs) w2 := endS hp 8 (by decide)
      clear hp
      have hz1 := hz0.mono (show w.heap.size ≤ _ by omega)
      obtain ⟨s', hv, hn⟩ := hz0
      cases hv
      go_wp2
      refine ret_box 4 34 (w.heap.size + 2) 34 _ _ (by kernel_rfl) rfl hbx0 Try.underlying34 rfl (by kernel_rfl) rfl ?_
      rw [show sgn b n + sgn b m = sgn b (n + m) by cases b <;> simp [sgn] <;> omega]
      exact ⟨_, rfl, hz1, e1.stepS hG (by simp)⟩
  · have hc : c = !b := by cases b <;> cases c <;> simp_all
    have hdec : (b == !b) = false := by cases b <;> rfl
    subst hc
    go_wp2_with fail
    obtain ⟨w1, hw1, e1, b1, b2, b3, s1⟩ := alloc3 w #[.bool b, s] #[.bool !b, t] #[.bool false, .slice none 0 0] 34 34 34
    rw [← hw1]
    clear hw1
    refine (rcmp01_calls _ _ n m _ (hsN.ext e1) (htN.ext e1)).mono ?_
    rintro e w2 ⟨rfl, e2⟩
    have B1 := b1.ext e2
    have B2 := b2.ext e2
    have B3 := b3.ext e2
    have E := e1.trans e2
    have es2 := e2.size
    rcases (show m ≤ n ∨ n < m by omega) with hle | hlt
    · have hcm : 0 ≤ cmpN n m := by unfold cmpN; rw [if_neg (by omega)]; split <;> omega
      go_wp2_with fail
      refine wp_region_puts [⟨8, (w.heap.size + 2), 34, PP.frZd (sgn b (n - m))⟩] [PP.val (.pointer (some ⟨w.heap.size, 0, none⟩)), PP.val (.bool b), PP.val (.pointer (some ⟨w.heap.size, 1, none⟩)), PP.val (s), PP.val (.pointer (some ⟨(w.heap.size + 1), 1, none⟩)), PP.val (t), PP.frN 3 .i64 TK (n - m), PP.frZd (sgn b (n - m)), PP.any] [] [8, 7, 6, 5, 4, 3, 2, 1, 0]
        (by kernel_rfl) (by kernel_rfl) (fun f => (by simp only [fillR, fillL, List.setIfInBounds_toArray, List.set_cons_succ, List.set_cons_zero, Nat.reduceAdd]; rfl)) ?_ ?_ ?_ ?_ ?_
      · intro x hx; simp only [List.mem_singleton] at hx; subst hx; exact ⟨by show (w.heap.size + 2) < w2.heap.size; omega, rfl⟩
      · intro x hx; simp only [List.mem_singleton] at hx; subst hx; rfl
      · intro x hx y hy h; simp only [List.mem_singleton] at hx hy; subst hx hy; exact absurd rfl h
      · refine ⟨?o0, ?o1, ?o2, ?o3, ?o4, ?o5, ?o6, ?o7, ?o8, trivial⟩
        case o0 =>
          intro f w3 hG hp hl
          have hE : Ext w2 w3 := hG
          have hS := hE.size
          simp only [OpGoal]
          go_simp
          exact ⟨_, rfl, Ext.refl _, rfl⟩
        case o1 =>
          intro f w3 hG hp hl
          have hE : Ext w2 w3 := hG
          have hS := hE.size
          have q24 : f 0 = .pointer (some ⟨w.heap.size, 0, none⟩) := tellV hp 0 0 rfl rfl (fun h => by cases h)
          have hcell := (B1.ext hE).cell 0
          simp only [OpGoal]
          go_simp
          exact ⟨_, rfl, Ext.refl _, rfl⟩
        case o2 =>
          intro f w3 hG hp hl
          have hE : Ext w2 w3 := hG
          have hS := hE.size
          simp only [OpGoal]
          go_simp
          exact ⟨_, rfl, Ext.refl _, rfl⟩
        case o3 =>
          intro f w3 hG hp hl
          have hE : Ext w2 w3 := hG
          have hS := hE.size
          have q26 : f 2 = .pointer (some ⟨w.heap.size, 1, none⟩) := tellV hp 0 2 rfl rfl (fun h => by cases h)
          have hcell := (B1.ext hE).cell 1
          simp only [OpGoal]
          go_simp
          exact ⟨_, rfl, Ext.refl _, rfl⟩
        case o4 =>
          intro f w3 hG hp hl
          have hE : Ext w2 w3 := hG
          have hS := hE.size
          simp only [OpGoal]
          go_simp
          exact ⟨_, rfl, Ext.refl _, rfl⟩
        case o5 =>
          intro f w3 hG hp hl
          have hE : Ext w2 w3 := hG
          have hS := hE.size
          have q28 : f 4 = .pointer (some ⟨(w.heap.size + 1), 1, none⟩) := tellV hp 0 4 rfl rfl (fun h => by cases h)
          have hcell := (B2.ext hE).cell 1
          simp only [OpGoal]
          go_simp
          exact ⟨_, rfl, Ext.refl _, rfl⟩
        case o6 =>
          intro f w3 hG hp hl
          have hE : Ext w2 w3 := hG
          have hS := hE.size
          have q27 : f 3 = s := tellV hp 0 3 rfl rfl (fun h => by cases h)
          have q29 : f 5 = t := tellV hp 1 5 rfl rfl (fun h => by cases h)
          change OpGoal _ _ _ f w3 Ext _
          refine og_call (P := Try.prog) _ _ _ #[f 3, f 5] Try.func102 (by kernel_rfl) (by kernel_rfl) rfl rfl (by kernel_rfl) ?_
          rw [q27, q29]
          refine (rsub01_calls _ _ n m _ (hsN.ext (E.trans hE)) (htN.ext (E.trans hE)) hle).mono ?_
          rintro e w' ⟨v', rfl, h1, h2⟩
          exact ⟨v', rfl, h2, h1.mono hS⟩
        case o7 =>
          intro f w3 hG hp hl
          have hE : Ext w2 w3 := hG
          have hS := hE.size
          have q25 : f 1 = .bool b := tellV hp 0 1 rfl rfl (fun h => by cases h)
          have q30 := tellV hp 1 6 rfl rfl (fun _ => hE)
          change OpGoal _ _ _ f w3 Ext _
          refine og_call (P := Try.prog) _ _ _ #[f 1, f 6] Try.func58 (by kernel_rfl) (by kernel_rfl) rfl rfl (by kernel_rfl) ?_
          rw [q25]
          refine (form_calls2 _ _ _ _ (q30.isC.isN TK_gt (Nat.le_trans (dg_len_mono TK_gt (show n - m ≤ n by omega)) (by unfold sz at hsx; (first | rw [LIM_eq] | rw [LIM_eqT]); omega)))).mono ?_
          rintro e w' ⟨v', rfl, h1, h2⟩
          exact ⟨v', rfl, h2, h1.mono hS⟩
        case o8 =>
          intro f w3 hG hp hl
          have hE : Ext w2 w3 := hG
          have hS := hE.size
          have q31 := tellV hp 0 7 rfl rfl (fun _ => hE)
          intro hg0
          change OpGoal _ _ _ f w3 (Chg _) _
          obtain ⟨s', hv, hn⟩ := q31
          exact og_store (P := Try.prog) _ _ _ (w.heap.size + 2) _ _ _ (PP.frZd _ : PP _).p rfl rfl rfl hv (show Bx 34 w3 _ _ from hg0.trans B3) (by kernel_rfl) rfl (all2 rfl hn.oneCell) (fun w' h => ⟨s', rfl, hn.chg h (by omega)⟩)
      · intro f w3 hG hp
        obtain ⟨cs0, hbx0, hz0⟩ : ∃ cs, Bx 34 w3 (w.heap.size + 2) cs ∧ (PP.frZd (sgn b (n - m)) : PP w2.heap.size).p (.agg cs) w3 := endS hp 8 (by decide)
        clear hp
        have hz1 := hz0.mono (show w.heap.size ≤ _ by omega)
        obtain ⟨s', hv, hn⟩ := hz0
        cases hv
        go_wp2
        refine ret_box 4 34 (w.heap.size + 2) 34 _ _ (by kernel_rfl) rfl hbx0 Try.underlying34 rfl (by kernel_rfl) rfl ?_
        rw [show sgn b n + sgn (!b) m = sgn b (n - m) by cases b <;> simp [sgn] <;> omega]
        exact ⟨_, rfl, hz1, E.stepS hG (by simp)⟩
    · have hcm : ¬ 0 ≤ cmpN n m := by unfold cmpN; rw [if_pos hlt]; omega
      go_wp2_with fail
      refine wp_region_puts [⟨8, (w.heap.size + 2), 34, PP.frZd (sgn (!b) (m - n))⟩] [PP.val (.pointer (some ⟨(w.heap.size + 1), 0, none⟩)), PP.val (.bool !b), PP.val (.pointer (some ⟨(w.heap.size + 1), 1, none⟩)), PP.val (t), PP.val (.pointer (some ⟨w.heap.size, 1, none⟩)), PP.val (s), PP.frN 3 .i64 TK (m - n), PP.frZd (sgn (!b) (m - n)), PP.any] [] [8, 7, 6, 5, 4, 3, 2, 1, 0]
        (by kernel_rfl) (by kernel_rfl) (fun f => (by simp only [fillR, fillL, List.setIfInBounds_toArray, List.set_cons_succ, List.set_cons_zero, Nat.reduceAdd]; rfl)) ?_ ?_ ?_ ?_ ?_
      · intro x hx; simp only [List.mem_singleton] at hx; subst hx; exact ⟨by show (w.heap.size + 2) < w2.heap.size; omega, rfl⟩
      · intro x hx; simp only [List.mem_singleton] at hx; subst hx; rfl
      · intro x hx y hy h; simp only [List.mem_singleton] at hx hy; subst hx hy; exact absurd rfl h
      · refine ⟨?o0, ?o1, ?o2, ?o3, ?o4, ?o5, ?o6, ?o7, ?o8, trivial⟩
        case o0 =>
          intro f w3 hG hp hl
          have hE : Ext w2 w3 := hG
          have hS := hE.size
          simp only [OpGoal]
          go_simp
          exact ⟨_, rfl, Ext.refl _, rfl⟩
        case o1 =>
          intro f w3 hG hp hl
          have hE : Ext w2 w3 := hG
          have hS := hE.size
          have q32 : f 0 = .pointer (some ⟨(w.heap.size + 1), 0, none⟩) := tellV hp 0 0 rfl rfl (fun h => by cases h)
          have hcell := (B2.ext hE).cell 0
          simp only [OpGoal]
          go_simp
          exact ⟨_, rfl, Ext.refl _, rfl⟩
        case o2 =>
          intro f w3 hG hp hl
          have hE : Ext w2 w3 := hG
          have hS := hE.size
          simp only [OpGoal]
          go_simp
          exact ⟨_, rfl, Ext.refl _, rfl⟩
        case o3 =>
          intro f w3 hG hp hl
          have hE : Ext w2 w3 := hG
          have hS := hE.size
          have q34 : f 2 = .pointer (some ⟨(w.heap.size + 1), 1, none⟩) := tellV hp 0 2 rfl rfl (fun h => by cases h)
          have hcell := (B2.ext hE).cell 1
          simp only [OpGoal]
          go_simp
          exact ⟨_, rfl, Ext.refl _, rfl⟩
        case o4 =>
          intro f w3 hG hp hl
          have hE : Ext w2 w3 := hG
          have hS := hE.size
          simp only [OpGoal]
          go_simp
          exact ⟨_, rfl, Ext.refl _, rfl⟩
        case o5 =>
          intro f w3 hG hp hl
          have hE : Ext w2 w3 := hG
          have hS := hE.size
          have q36 : f 4 = .pointer (some ⟨w.heap.size, 1, none⟩) := tellV hp 0 4 rfl rfl (fun h => by cases h)
          have hcell := (B1.ext hE).cell 1
          simp only [OpGoal]
          go_simp
          exact ⟨_, rfl, Ext.refl _, rfl⟩
        case o6 =>
          intro f w3 hG hp hl
          have hE : Ext w2 w3 := hG
          have hS := hE.size
          have q35 : f 3 = t := tellV hp 0 3 rfl rfl (fun h => by cases h)
          have q37 : f 5 = s := tellV hp 1 5 rfl rfl (fun h => by cases h)
          change OpGoal _ _ _ f w3 Ext _
          refine og_call (P := Try.prog) _ _ _ #[f 3, f 5] Try.func102 (by kernel_rfl) (by kernel_rfl) rfl rfl (by kernel_rfl) ?_
          rw [q35, q37]
          refine (rsub01_calls _ _ m n _ (htN.ext (E.trans hE)) (hsN.ext (E.trans hE)) (by omega)).mono ?_
          rintro e w' ⟨v', rfl, h1, h2⟩
          exact ⟨v', rfl, h2, h1.mono hS⟩
        case o7 =>
          intro f w3 hG hp hl
          have hE : Ext w2 w3 := hG
          have hS := hE.size
          have q33 : f 1 = .bool !b := tellV hp 0 1 rfl rfl (fun h => by cases h)
          have q38 := tellV hp 1 6 rfl rfl (fun _ => hE)
          change OpGoal _ _ _ f w3 Ext _
          refine og_call (P := Try.prog) _ _ _ #[f 1, f 6] Try.func58 (by kernel_rfl) (by kernel_rfl) rfl rfl (by kernel_rfl) ?_
          rw [q33]
          refine (form_calls2 _ _ _ _ (q38.isC.isN TK_gt (Nat.le_trans (dg_len_mono TK_gt (show m - n ≤ m by omega)) (by unfold sz at hsy; (first | rw [LIM_eq] | rw [LIM_eqT]); omega)))).mono ?_
          rintro e w' ⟨v', rfl, h1, h2⟩
          exact ⟨v', rfl, h2, h1.mono hS⟩
        case o8 =>
          intro f w3 hG hp hl
          have hE : Ext w2 w3 := hG
          have hS := hE.size
          have q39 := tellV hp 0 7 rfl rfl (fun _ => hE)
          intro hg0
          change OpGoal _ _ _ f w3 (Chg _) _
          obtain ⟨s', hv, hn⟩ := q39
          exact og_store (P := Try.prog) _ _ _ (w.heap.size + 2) _ _ _ (PP.frZd _ : PP _).p rfl rfl rfl hv (show Bx 34 w3 _ _ from hg0.trans B3) (by kernel_rfl) rfl (all2 rfl hn.oneCell) (fun w' h => ⟨s', rfl, hn.chg h (by omega)⟩)
      · intro f w3 hG hp
        obtain ⟨cs0, hbx0, hz0⟩ : ∃ cs, Bx 34 w3 (w.heap.size + 2) cs ∧ (PP.frZd (sgn (!b) (m - n)) : PP w2.heap.size).p (.agg cs) w3 := endS hp 8 (by decide)
        clear hp
        have hz1 := hz0.mono (show w.heap.size ≤ _ by omega)
        obtain ⟨s', hv, hn⟩ := hz0
        cases hv
        go_wp2
        refine ret_box 4 34 (w.heap.size + 2) 34 _ _ (by kernel_rfl) rfl hbx0 Try.underlying34 rfl (by kernel_rfl) rfl ?_
        rw [show sgn b n + sgn (!b) m = sgn (!b) (m - n) by cases b <;> simp [sgn] <;> omega]
        exact ⟨_, rfl, hz1, E.stepS hG (by simp)⟩

set_option maxRecDepth 100000 in
set_option maxHeartbeats 1000000 in
theorem zmul2_calls (v u : Value) (x y : Int) (w : World) (hv : CZ w v x) (hu : CZ w u y) (hsx : szT x ≤ 68719476736) (hsy : szT y ≤ 68719476736) :
    Calls Try.prog 80 #[v, u] w fun e w' => ∃ v', e = .returned v' ∧ FrZd w.heap.size w' v' (x * y) ∧ Ext w w' := by
  obtain ⟨b, s, n, rfl, hs, rfl⟩ := hv.parts
  obtain ⟨c, t, m, rfl, ht, rfl⟩ := hu.parts
  rw [szT_sgn] at hsx hsy
  clear hv hu
  have hsN := hs.isN TK_gt (by (first | rw [LIM_eq] | rw [LIM_eqT]); omega)
  have htN := ht.isN TK_gt (by (first | rw [LIM_eq] | rw [LIM_eqT]); omega)
  go_enter Try.func80, Try.ntmps80
  go_wp2_with fail
  obtain ⟨w1, hw1, e1, b1, b2, b3, s1⟩ := alloc3 w #[.bool b, s] #[.bool c, t] #[.bool false, .slice none 0 0] 34 34 34
  rw [← hw1]
  clear hw1
  refine wp_region_puts [⟨11, (w.heap.size + 2), 34, PP.frZd (sgn (b != c) (n * m))⟩] [PP.val (.pointer (some ⟨w.heap.size, 0, none⟩)), PP.val (.bool b), PP.val (.pointer (some ⟨(w.heap.size + 1), 0, none⟩)), PP.val (.bool c), PP.val (.bool (b != c)), PP.val (.pointer (some ⟨w.heap.size, 1, none⟩)), PP.val (s), PP.val (.pointer (some ⟨(w.heap.size + 1), 1, none⟩)), PP.val (t), PP.frN 3 .i64 TK (n * m), PP.frZd (sgn (b != c) (n * m)), PP.any] [] [11, 10, 9, 8, 7, 6, 5, 4, 3, 2, 1, 0]
    (by kernel_rfl) (by kernel_rfl) (fun f => (by simp only [fillR, fillL, List.setIfInBounds_toArray, List.set_cons_succ, List.set_cons_zero, Nat.reduceAdd]; rfl)) ?_ ?_ ?_ ?_ ?_
  · intro x hx; simp only [List.mem_singleton] at hx; subst hx; exact ⟨by show (w.heap.size + 2) < w1.heap.size; omega, rfl⟩
  · intro x hx; simp only [List.mem_singleton] at hx; subst hx; rfl
  · intro x hx y hy h; simp only [List.mem_singleton] at hx hy; subst hx hy; exact absurd rfl h
  · refine ⟨?o0, ?o1, ?o2, ?o3, ?o4, ?o5, ?o6, ?o7, ?o8, ?o9, ?o10, ?o11, trivial⟩
    case o0 =>
      intro f w2 hG hp hl
      have hE : Ext w1 w2 := hG
      have hS := hE.size
      simp only [OpGoal]
      go_simp
      exact ⟨_, rfl, Ext.refl _, rfl⟩
    case o1 =>
      intro f w2 hG hp hl
      have hE : Ext w1 w2 := hG
      have hS := hE.size
      have q5 : f 0 = .pointer (some ⟨w.heap.size, 0, none⟩) := tellV hp 0 0 rfl rfl (fun h => by cases h)
      have hcell := (b1.ext hE).cell 0
      simp only [OpGoal]
      go_simp
      exact ⟨_, rfl, Ext.refl _, rfl⟩
    case o2 =>
      intro f w2 hG hp hl
      have hE : Ext w1 w2 := hG
      have hS := hE.size
      simp only [OpGoal]
      go_simp
      exact ⟨_, rfl, Ext.refl _, rfl⟩
    case o3 =>
      intro f w2 hG hp hl
      have hE : Ext w1 w2 := hG
      have hS := hE.size
      have q7 : f 2 = .pointer (some ⟨(w.heap.size + 1), 0, none⟩) := tellV hp 0 2 rfl rfl (fun h => by cases h)
      have hcell := (b2.ext hE).cell 0
      simp only [OpGoal]
      go_simp
      exact ⟨_, rfl, Ext.refl _, rfl⟩
    case o4 =>
      intro f w2 hG hp hl
      have hE : Ext w1 w2 := hG
      have hS := hE.size
      have q6 : f 1 = .bool b := tellV hp 0 1 rfl rfl (fun h => by cases h)
      have q8 : f 3 = .bool c := tellV hp 1 3 rfl rfl (fun h => by cases h)
      simp only [OpGoal]
      go_simp
      exact ⟨_, rfl, Ext.refl _, rfl⟩
    case o5 =>
      intro f w2 hG hp hl
      have hE : Ext w1 w2 := hG
      have hS := hE.size
      simp only [OpGoal]
      go_simp
      exact ⟨_, rfl, Ext.refl _, rfl⟩
    case o6 =>
      intro f w2 hG hp hl
      have hE : Ext w1 w2 := hG
      have hS := hE.size
      have q10 : f 5 = .pointer (some ⟨w.heap.size, 1, none⟩) := tellV hp 0 5 rfl rfl (fun h => by cases h)
      have hcell := (b1.ext hE).cell 1
      simp only [OpGoal]
      go_simp
      exact ⟨_, rfl, Ext.refl _, rfl⟩
    case o7 =>
      intro f w2 hG hp hl
      have hE : Ext w1 w2 := hG
      have hS := hE.size
      simp only [OpGoal]
      go_simp
      exact ⟨_, rfl, Ext.refl _, rfl⟩
    case o8 =>
      intro f w2 hG hp hl
      have hE : Ext w1 w2 := hG
      have hS := hE.size
      have q12 : f 7 = .pointer (some ⟨(w.heap.size + 1), 1, none⟩) := tellV hp 0 7 rfl rfl (fun h => by cases h)
      have hcell := (b2.ext hE).cell 1
      simp only [OpGoal]
      go_simp
      exact ⟨_, rfl, Ext.refl _, rfl⟩
    case o9 =>
      intro f w2 hG hp hl
      have hE : Ext w1 w2 := hG
      have hS := hE.size
      have q11 : f 6 = s := tellV hp 0 6 rfl rfl (fun h => by cases h)
      have q13 : f 8 = t := tellV hp 1 8 rfl rfl (fun h => by cases h)
      change OpGoal _ _ _ f w2 Ext _
      refine og_call (P := Try.prog) _ _ _ #[f 6, f 8] Try.func79 (by kernel_rfl) (by kernel_rfl) rfl rfl (by kernel_rfl) ?_
      rw [q11, q13]
      refine (rmul01_calls _ _ n m _ (hsN.ext (e1.trans hE)) (htN.ext (e1.trans hE))).mono ?_
      rintro e w' ⟨v', rfl, h1, h2⟩
      exact ⟨v', rfl, h2, h1.mono hS⟩
    case o10 =>
      intro f w2 hG hp hl
      have hE : Ext w1 w2 := hG
      have hS := hE.size
      have q9 : f 4 = .bool (b != c) := tellV hp 0 4 rfl rfl (fun h => by cases h)
      have q14 := tellV hp 1 9 rfl rfl (fun _ => hE)
      change OpGoal _ _ _ f w2 Ext _
      refine og_call (P := Try.prog) _ _ _ #[f 4, f 9] Try.func58 (by kernel_rfl) (by kernel_rfl) rfl rfl (by kernel_rfl) ?_
      rw [q9]
      refine (form_calls2 _ _ _ _ (q14.isC.isN TK_gt (Nat.le_trans (dg_len_mul TK_gt n m) (by unfold sz at hsx hsy; (first | rw [LIM_eq] | rw [LIM_eqT]); omega)))).mono ?_
      rintro e w' ⟨v', rfl, h1, h2⟩
      exact ⟨v', rfl, h2, h1.mono hS⟩
    case o11 =>
      intro f w2 hG hp hl
      have hE : Ext w1 w2 := hG
      have hS := hE.size
      have q15 := tellV hp 0 10 rfl rfl (fun _ => hE)
      intro hg0
      change OpGoal _ _ _ f w2 (Chg _) _
      obtain ⟨s', hv, hn⟩ := q15
      exact og_store (P := Try.prog) _ _ _ (w.heap.size + 2) _ _ _ (PP.frZd _ : PP _).p rfl rfl rfl hv (show Bx 34 w2 _ _ from hg0.trans b3) (by kernel_rfl) rfl (all2 rfl hn.oneCell) (fun w' h => ⟨s', rfl, hn.chg h (by omega)⟩)
  · intro f w2 hG hp
    obtain ⟨cs0, hbx0, hz0⟩ : ∃ cs, Bx 34 w2 (w.heap.size + 2) cs ∧ (PP.frZd (sgn (b != c) (n * m)) : PP w1.heap.size).p (.agg cs) w2 := endS hp 11 (by decide)
    clear hp
    have hz1 := hz0.mono (show w.heap.size ≤ _ by omega)
    obtain ⟨s', hv, hn⟩ := hz0
    cases hv
    go_wp2
    refine ret_box 4 34 (w.heap.size + 2) 34 _ _ (by kernel_rfl) rfl hbx0 Try.underlying34 rfl (by kernel_rfl) rfl ?_
    rw [← sgn_mul]
    exact ⟨_, rfl, hz1, e1.stepS hG (by simp)⟩

set_option maxRecDepth 100000 in
set_option maxHeartbeats 1000000 in
theorem zsub2_calls (v u : Value) (x y : Int) (w : World) (hv : CZ w v x) (hu : CZ w u y) (hsx : szT x ≤ 68719476736) (hsy : szT y ≤ 68719476736) :
    Calls Try.prog 93 #[v, u] w fun e w' => ∃ v', e = .returned v' ∧ FrZd w.heap.size w' v' (x - y) ∧ Ext w w' := by
  have hV := Lib.hid hv
  have hU := Lib.hid hu
  obtain ⟨b, s, n, rfl, -, -⟩ := hv.parts
  obtain ⟨c, t, m, rfl, -, -⟩ := hu.parts
  clear hv hu
  go_enter Try.func93, Try.ntmps93
  go_wp2_with fail
  obtain ⟨w1, hw1, e1, b1, b2, b3, s1⟩ := alloc3 w #[.bool b, s] #[.bool c, t] #[.bool false, .slice none 0 0] 34 34 34
  rw [← hw1]
  clear hw1
  refine wp_region_puts [⟨4, (w.heap.size + 2), 34, PP.frZd (x + -y)⟩] [PP.val (.agg #[.bool b, s]), PP.val (.agg #[.bool c, t]), PP.frZd (-y), PP.frZd (x + -y), PP.any] [] [4, 3, 2, 1, 0]
    (by kernel_rfl) (by kernel_rfl) (fun f => (by simp only [fillR, fillL, List.setIfInBounds_toArray, List.set_cons_succ, List.set_cons_zero, Nat.reduceAdd]; rfl)) ?_ ?_ ?_ ?_ ?_
  · intro x hx; simp only [List.mem_singleton] at hx; subst hx; exact ⟨by show (w.heap.size + 2) < w1.heap.size; omega, rfl⟩
  · intro x hx; simp only [List.mem_singleton] at hx; subst hx; rfl
  · intro x hx y hy h; simp only [List.mem_singleton] at hx hy; subst hx hy; exact absurd rfl h
  · refine ⟨?o0, ?o1, ?o2, ?o3, ?o4, trivial⟩
    case o0 =>
      intro f w2 hG hp hl
      have hE : Ext w1 w2 := hG
      have hS := hE.size
      change OpGoal _ _ _ f w2 Ext _
      exact og_load (P := Try.prog) _ _ w.heap.size _ _ _ rfl rfl rfl (b1.ext hE) Try.underlying34 rfl (by kernel_rfl) rfl
    case o1 =>
      intro f w2 hG hp hl
      have hE : Ext w1 w2 := hG
      have hS := hE.size
      change OpGoal _ _ _ f w2 Ext _
      exact og_load (P := Try.prog) _ _ (w.heap.size + 1) _ _ _ rfl rfl rfl (b2.ext hE) Try.underlying34 rfl (by kernel_rfl) rfl
    case o2 =>
      intro f w2 hG hp hl
      have hE : Ext w1 w2 := hG
      have hS := hE.size
      have q6 : f 1 = .agg #[.bool c, t] := tellV hp 0 1 rfl rfl (fun h => by cases h)
      change OpGoal _ _ _ f w2 Ext _
      refine og_call (P := Try.prog) _ _ _ #[f 1] Try.func70 (by kernel_rfl) (by kernel_rfl) rfl rfl (by kernel_rfl) ?_
      rw [q6]
      refine (zneg2_calls _ y _ (hU.out.ext (e1.trans hE)) hsy).mono ?_
      rintro e w' ⟨v', rfl, h1, h2⟩
      exact ⟨v', rfl, h2, h1.mono hS⟩
    case o3 =>
      intro f w2 hG hp hl
      have hE : Ext w1 w2 := hG
      have hS := hE.size
      have q5 : f 0 = .agg #[.bool b, s] := tellV hp 0 0 rfl rfl (fun h => by cases h)
      have q7 := tellV hp 1 2 rfl rfl (fun _ => hE)
      change OpGoal _ _ _ f w2 Ext _
      refine og_call (P := Try.prog) _ _ _ #[f 0, f 2] Try.func78 (by kernel_rfl) (by kernel_rfl) rfl rfl (by kernel_rfl) ?_
      rw [q5]
      refine (zadd2_calls _ _ x (-y) _ (hV.out.ext (e1.trans hE)) q7.cz hsx (by rw [szT_neg]; exact hsy)).mono ?_
      rintro e w' ⟨v', rfl, h1, h2⟩
      exact ⟨v', rfl, h2, h1.mono hS⟩
    case o4 =>
      intro f w2 hG hp hl
      have hE : Ext w1 w2 := hG
      have hS := hE.size
      have q8 := tellV hp 0 3 rfl rfl (fun _ => hE)
      intro hg0
      change OpGoal _ _ _ f w2 (Chg _) _
      obtain ⟨s', hv, hn⟩ := q8
      exact og_store (P := Try.prog) _ _ _ (w.heap.size + 2) _ _ _ (PP.frZd _ : PP _).p rfl rfl rfl hv (show Bx 34 w2 _ _ from hg0.trans b3) (by kernel_rfl) rfl (all2 rfl hn.oneCell) (fun w' h => ⟨s', rfl, hn.chg h (by omega)⟩)
  · intro f w2 hG hp
    obtain ⟨cs0, hbx0, hz0⟩ : ∃ cs, Bx 34 w2 (w.heap.size + 2) cs ∧ (PP.frZd (x + -y) : PP w1.heap.size).p (.agg cs) w2 := endS hp 4 (by decide)
    clear hp
    have hz1 := hz0.mono (show w.heap.size ≤ _ by omega)
    obtain ⟨s', hv, hn⟩ := hz0
    cases hv
    go_wp2
    refine ret_box 4 34 (w.heap.size + 2) 34 _ _ (by kernel_rfl) rfl hbx0 Try.underlying34 rfl (by kernel_rfl) rfl ?_
    rw [Int.sub_eq_add_neg]
    exact ⟨_, rfl, hz1, e1.stepS hG (by simp)⟩

set_option maxRecDepth 100000 in
set_option maxHeartbeats 1000000 in
theorem zcmp2_calls (v u : Value) (x y : Int) (w : World) (hv : CZ w v x) (hu : CZ w u y) (hsx : szT x ≤ 68719476736) (hsy : szT y ≤ 68719476736) :
    Calls Try.prog 81 #[v, u] w fun e w' => e = .returned (.int .i64 (x - y).sign) ∧ Ext w w' := by
  have hV := Lib.hid hv
  have hU := Lib.hid hu
  obtain ⟨b, s, n, rfl, -, -⟩ := hv.parts
  obtain ⟨c, t, m, rfl, -, -⟩ := hu.parts
  clear hv hu
  go_enter Try.func81, Try.ntmps81
  obtain ⟨w1, hw1, e1, b1, b2, s1⟩ := alloc2 w #[.bool b, s] #[.bool c, t] 34 34
  have hc0 := b1.cell 0
  have hc1 := b1.cell 1
  have hd0 := b2.cell 0
  have hd1 := b2.cell 1
  rw [hw1] at hc0 hc1 hd0 hd1
  go_wp2_with fail
  rw [← hw1]
  clear hc0 hc1 hd0 hd1
  refine (zsub2_calls _ _ x y _ (hV.out.ext e1) (hU.out.ext e1) hsx hsy).mono ?_
  rintro e w2 ⟨v2, rfl, h2, e2⟩
  go_wp2_with fail
  refine (zsign2_calls _ _ _ h2.cz).mono ?_
  rintro e w3 ⟨rfl, e3⟩
  go_wp2
  go_ret
  exact ⟨rfl, (e1.trans e2).trans e3⟩

/-- v is a whole number as it is handed in: its sign and its words. -/
def RawI (w : World) (v : Value) (b : Bool) (xs : List Nat) : Prop := ∃ s, v = .agg #[.bool b, s] ∧ IsL .u64 w s xs
set_option maxRecDepth 100000 in
set_option maxHeartbeats 1000000 in
theorem RawI.ext {w w' : World} {v : Value} {b : Bool} {xs : List Nat} (h : RawI w v b xs) (he : Ext w w') : RawI w' v b xs := by
  obtain ⟨s, h1, h2⟩ := h
  exact ⟨s, h1, h2.ext he⟩
set_option maxRecDepth 100000 in
set_option maxHeartbeats 1000000 in
theorem FrZ.raw {B0 : Nat} {w : World} {v : Value} {z : Int} (h : FrZ B0 w v z) : RawI w v (decide (z < 0)) (dg W z.natAbs) := by
  obtain ⟨s, h1, h2⟩ := h
  exact ⟨s, h1, h2.isC⟩

set_option maxRecDepth 100000 in
set_option maxHeartbeats 1000000 in
theorem zsame2_calls (v u : Value) (b c : Bool) (xs ys : List Nat) (w : World) (hv : RawI w v b xs) (hu : RawI w u c ys) :
    Calls Try.prog 19 #[v, u] w fun e w' => e = .returned (.bool (decide (b = c ∧ xs = ys))) ∧ Ext w w' := by
  obtain ⟨s, rfl, hs⟩ := hv
  obtain ⟨t, rfl, ht⟩ := hu
  go_enter Try.func19, Try.ntmps19
  obtain ⟨w1, hw1, e1, b1, b2, s1⟩ := alloc2 w #[.bool b, s] #[.bool c, t] 24 24
  have hc0 := b1.cell 0
  have hc1 := b1.cell 1
  have hd0 := b2.cell 0
  have hd1 := b2.cell 1
  rw [hw1] at hc0 hc1 hd0 hd1
  by_cases hbc : b = c
  · subst hbc
    have hdec : (b == b) = true := by cases b <;> rfl
    go_wp2_with fail
    rw [← hw1]
    clear hc0 hc1 hd0 hd1
    refine (rsame_calls _ _ xs ys _ (hs.ext e1) (ht.ext e1)).mono ?_
    rintro e w2 ⟨rfl, e2⟩
    go_wp2
    go_ret
    exact ⟨by simp, e1.trans e2⟩
  · have hdec : (b == c) = false := by cases b <;> cases c <;> simp_all
    go_wp2
    go_ret
    exact ⟨by simp [hbc], ((Ext.refl w).alloc _).alloc _⟩

set_option maxRecDepth 100000 in
set_option maxHeartbeats 1000000 in
theorem zcopy2_calls (v : Value) (b : Bool) (xs : List Nat) (w : World) (hv : RawI w v b xs) (hlen : xs.length ≤ 8796093022208) :
    Calls Try.prog 12 #[v] w fun e w' => ∃ v', e = .returned v' ∧ FrI w.heap.size w' v' b xs ∧ Ext w w' := by
  obtain ⟨s, rfl, hs⟩ := hv
  go_enter Try.func12, Try.ntmps12
  go_wp2_with fail
  obtain ⟨w1, hw1, e1, b1, b2, s1⟩ := alloc2 w #[.bool b, s] #[.bool false, .slice none 0 0] 24 24
  rw [← hw1]
  clear hw1
  refine wp_region_puts [⟨6, (w.heap.size + 1), 24, PP.frI b xs⟩] [PP.val (.pointer (some ⟨w.heap.size, 0, none⟩)), PP.val (.bool b), PP.val (.pointer (some ⟨w.heap.size, 1, none⟩)), PP.val (s), PP.frLw xs, PP.frI b xs, PP.any] [] [6, 5, 4, 3, 2, 1, 0]
    (by kernel_rfl) (by kernel_rfl) (fun f => (by simp only [fillR, fillL, List.setIfInBounds_toArray, List.set_cons_succ, List.set_cons_zero, Nat.reduceAdd]; rfl)) ?_ ?_ ?_ ?_ ?_
  · intro x hx; simp only [List.mem_singleton] at hx; subst hx; exact ⟨by show (w.heap.size + 1) < w1.heap.size; omega, rfl⟩
  · intro x hx; simp only [List.mem_singleton] at hx; subst hx; rfl
  · intro x hx y hy h; simp only [List.mem_singleton] at hx hy; subst hx hy; exact absurd rfl h
  · refine ⟨?o0, ?o1, ?o2, ?o3, ?o4, ?o5, ?o6, trivial⟩
    case o0 =>
      intro f w2 hG hp hl
      have hE : Ext w1 w2 := hG
      have hS := hE.size
      simp only [OpGoal]
      go_simp
      exact ⟨_, rfl, Ext.refl _, rfl⟩
    case o1 =>
      intro f w2 hG hp hl
      have hE : Ext w1 w2 := hG
      have hS := hE.size
      have q3 : f 0 = .pointer (some ⟨w.heap.size, 0, none⟩) := tellV hp 0 0 rfl rfl (fun h => by cases h)
      have hcell := (b1.ext hE).cell 0
      simp only [OpGoal]
      go_simp
      exact ⟨_, rfl, Ext.refl _, rfl⟩
    case o2 =>
      intro f w2 hG hp hl
      have hE : Ext w1 w2 := hG
      have hS := hE.size
      simp only [OpGoal]
      go_simp
      exact ⟨_, rfl, Ext.refl _, rfl⟩
    case o3 =>
      intro f w2 hG hp hl
      have hE : Ext w1 w2 := hG
      have hS := hE.size
      have q5 : f 2 = .pointer (some ⟨w.heap.size, 1, none⟩) := tellV hp 0 2 rfl rfl (fun h => by cases h)
      have hcell := (b1.ext hE).cell 1
      simp only [OpGoal]
      go_simp
      exact ⟨_, rfl, Ext.refl _, rfl⟩
    case o4 =>
      intro f w2 hG hp hl
      have hE : Ext w1 w2 := hG
      have hS := hE.size
      have q6 : f 3 = s := tellV hp 0 3 rfl rfl (fun h => by cases h)
      change OpGoal _ _ _ f w2 Ext _
      refine og_call (P := Try.prog) _ _ _ #[f 3] Try.func54 (by kernel_rfl) (by kernel_rfl) rfl rfl (by kernel_rfl) ?_
      rw [q6]
      refine (rcopy_calls _ xs _ (hs.ext (e1.trans hE)) hlen).mono ?_
      rintro e w' ⟨v', rfl, h1, h2⟩
      exact ⟨v', rfl, h2, h1.mono hS⟩
    case o5 =>
      intro f w2 hG hp hl
      have hE : Ext w1 w2 := hG
      have hS := hE.size
      have q4 : f 1 = .bool b := tellV hp 0 1 rfl rfl (fun h => by cases h)
      have q7 := tellV hp 1 4 rfl rfl (fun _ => hE)
      obtain ⟨ad, cap, hv⟩ := FrL.slice q7
      simp only [OpGoal]
      go_simp
      exact ⟨_, rfl, Ext.refl _, _, rfl, hv ▸ q7⟩
    case o6 =>
      intro f w2 hG hp hl
      have hE : Ext w1 w2 := hG
      have hS := hE.size
      have q8 := tellV hp 0 5 rfl rfl (fun _ => hE)
      intro hg0
      change OpGoal _ _ _ f w2 (Chg _) _
      obtain ⟨s', hv, hn⟩ := q8
      obtain ⟨ad, cap, hv2⟩ := FrL.slice hn
      exact og_store (P := Try.prog) _ _ _ (w.heap.size + 1) _ _ _ (PP.frI _ _ : PP _).p rfl rfl rfl hv (show Bx 24 w2 _ _ from hg0.trans b2) (by kernel_rfl) rfl (all2 rfl (by rw [hv2]; rfl)) (fun w' h => ⟨s', rfl, hn.chg h (by omega)⟩)
  · intro f w2 hG hp
    obtain ⟨cs0, hbx0, hz0⟩ : ∃ cs, Bx 24 w2 (w.heap.size + 1) cs ∧ (PP.frI b xs : PP w1.heap.size).p (.agg cs) w2 := endS hp 6 (by decide)
    clear hp
    obtain ⟨s', hv, hn⟩ := hz0
    cases hv
    go_wp2
    refine ret_box 2 24 (w.heap.size + 1) 24 _ _ (by kernel_rfl) rfl hbx0 Try.underlying24 rfl (by kernel_rfl) rfl ?_
    exact ⟨_, rfl, ⟨_, rfl, FrL.mono hn (by omega)⟩, e1.stepS hG (by simp)⟩
end Go.Proofs.Ytnefipinicfegaa
