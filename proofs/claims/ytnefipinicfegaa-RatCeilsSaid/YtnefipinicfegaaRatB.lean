/-
  rat's functions, walked (II): making, forms, signs, comparison, sums, differences, products, quotients.
-/
import Derived.Test.YtnefipinicfegaaRatA
namespace Go.Proofs.Ytnefipinicfegaa
open Go.RowKit
set_option linter.unusedVariables false
set_option linter.unusedSimpArgs false

set_option maxRecDepth 100000 in
theorem mkRat_divInt (b c : Bool) (n m : Nat) (hm : 0 < m) : mkRat (sgn (b != c) n) m = Rat.divInt (sgn b n) (sgn c m) := by
  cases c
  · have e : sgn false m = (m : Int) := rfl
    rw [e, Rat.divInt_ofNat]
    congr 1
    cases b <;> rfl
  · have e : sgn true m = -(m : Int) := rfl
    rw [e, Rat.divInt_neg', Rat.divInt_ofNat]
    congr 1
    cases b <;> simp [sgn]

/-- The fraction 0 as the zero value has it. -/
def zeroQ : Value := .agg #[.bool false, .slice none 0 0, .slice none 0 0]

set_option maxRecDepth 100000 in
theorem rmake_calls (v u : Value) (x y : Int) (w : World) (hv : IsZ w v x) (hu : IsZ w u y) (hy : y ≠ 0) (hsx : szZ x ≤ 17592186044096) (hsy : szZ y ≤ 17592186044096) :
    Calls Try.prog 13 #[v, u] w fun e w' => ∃ v', e = .returned (.tuple #[v', .int .i64 0]) ∧ FrQ w.heap.size w' v' (Rat.divInt x y) ∧ Ext w w' := by
  have hU := Lib.hid hu
  obtain ⟨b, s, n, rfl, hs, hx⟩ := hv
  obtain ⟨c, t, m, rfl, ht, hy2⟩ := hu
  have hsn : sz W n ≤ 17592186044096 := by rw [hx] at hsx; unfold szZ at hsx; rwa [sgn_natAbs] at hsx
  have hsm : sz W m ≤ 17592186044096 := by rw [hy2] at hsy; unfold szZ at hsy; rwa [sgn_natAbs] at hsy
  have hm : 0 < m := by
    rcases Nat.eq_zero_or_pos m with h | h
    · subst h; exact absurd (by rw [hy2]; cases c <;> rfl) hy
    · exact h
  have hys : ¬ y.sign = 0 := by have := sign_cases y; omega
  have Hx := Lib.hid hx
  have Hy := Lib.hid hy2
  clear hx hy2
  go_enter Try.func13, Try.ntmps13
  go_wp2_with fail
  obtain ⟨w1, hw1, e1, b1, b2, b3, s1⟩ := alloc3 w #[.bool b, s] #[.bool c, t] #[.bool false, .slice none 0 0, .slice none 0 0] 24 24 28
  have hc0 := b2.cell 0
  have hc1 := b2.cell 1
  rw [← hw1]
  clear hw1
  refine (zsign_calls _ y _ (hU.out.ext e1)).mono ?_
  rintro e w2 ⟨rfl, e2⟩
  have E := e1.trans e2
  have B1 := b1.ext e2
  have B2 := b2.ext e2
  have B3 := b3.ext e2
  have es := e2.size
  clear hc0 hc1
  go_wp2_with fail
  refine wp_region_puts [⟨11, (w.heap.size + 2), 28, PP.frQ (mkRat (sgn (b != c) n) m)⟩] [PP.val (.pointer (some ⟨w.heap.size, 0, none⟩)), PP.val (.bool b), PP.val (.pointer (some ⟨(w.heap.size + 1), 0, none⟩)), PP.val (.bool c), PP.val (.bool (b != c)), PP.val (.pointer (some ⟨w.heap.size, 1, none⟩)), PP.val (s), PP.frZ (sgn (b != c) n), PP.val (.pointer (some ⟨(w.heap.size + 1), 1, none⟩)), PP.val (t), PP.frQ (mkRat (sgn (b != c) n) m), PP.any, PP.val (.int .i64 0)] [] [11, 10, 9, 8, 7, 6, 5, 4, 3, 2, 1, 0]
    (by kernel_rfl) (by kernel_rfl) (fun f => (by simp only [fillR, fillL, List.setIfInBounds_toArray, List.set_cons_succ, List.set_cons_zero, Nat.reduceAdd]; rfl)) ?_ ?_ ?_ ?_ ?_
  · intro x hx; simp only [List.mem_singleton] at hx; subst hx; exact ⟨by show (w.heap.size + 2) < w2.heap.size; omega, rfl⟩
  · intro x hx; simp only [List.mem_singleton] at hx; subst hx; rfl
  · intro x hx y hy h; simp only [List.mem_singleton] at hx hy; subst hx hy; exact absurd rfl h
  · refine ⟨?o0, ?o1, ?o2, ?o3, ?o4, ?o5, ?o6, ?o7, ?o8, ?o9, ?o10, ?o11, ?o12, trivial⟩
    case o0 =>
      intro f w3 hG hp hl
      have hE : Ext w2 w3 := hG
      have hS := hE.size
      simp only [OpGoal]
      go_simp
      exact ⟨_, rfl, Ext.refl _, rfl⟩
    case o1 =>
      intro f w3 hG hp hl
      have hE : Ext w2 w3 := hG
      have hS := hE.size
      have q10 : f 0 = .pointer (some ⟨w.heap.size, 0, none⟩) := tellV hp 0 0 rfl rfl (fun h => by cases h)
      have hcell := (B1.ext hE).cell 0
      simp only [OpGoal]
      go_simp
      exact ⟨_, rfl, Ext.refl _, rfl⟩
    case o2 =>
      intro f w3 hG hp hl
      have hE : Ext w2 w3 := hG
      have hS := hE.size
      simp only [OpGoal]
      go_simp
      exact ⟨_, rfl, Ext.refl _, rfl⟩
    case o3 =>
      intro f w3 hG hp hl
      have hE : Ext w2 w3 := hG
      have hS := hE.size
      have q12 : f 2 = .pointer (some ⟨(w.heap.size + 1), 0, none⟩) := tellV hp 0 2 rfl rfl (fun h => by cases h)
      have hcell := (B2.ext hE).cell 0
      simp only [OpGoal]
      go_simp
      exact ⟨_, rfl, Ext.refl _, rfl⟩
    case o4 =>
      intro f w3 hG hp hl
      have hE : Ext w2 w3 := hG
      have hS := hE.size
      have q11 : f 1 = .bool b := tellV hp 0 1 rfl rfl (fun h => by cases h)
      have q13 : f 3 = .bool c := tellV hp 1 3 rfl rfl (fun h => by cases h)
      simp only [OpGoal]
      go_simp
      exact ⟨_, rfl, Ext.refl _, rfl⟩
    case o5 =>
      intro f w3 hG hp hl
      have hE : Ext w2 w3 := hG
      have hS := hE.size
      simp only [OpGoal]
      go_simp
      exact ⟨_, rfl, Ext.refl _, rfl⟩
    case o6 =>
      intro f w3 hG hp hl
      have hE : Ext w2 w3 := hG
      have hS := hE.size
      have q15 : f 5 = .pointer (some ⟨w.heap.size, 1, none⟩) := tellV hp 0 5 rfl rfl (fun h => by cases h)
      have hcell := (B1.ext hE).cell 1
      simp only [OpGoal]
      go_simp
      exact ⟨_, rfl, Ext.refl _, rfl⟩
    case o7 =>
      intro f w3 hG hp hl
      have hE : Ext w2 w3 := hG
      have hS := hE.size
      have q14 : f 4 = .bool (b != c) := tellV hp 0 4 rfl rfl (fun h => by cases h)
      have q16 : f 6 = s := tellV hp 1 6 rfl rfl (fun h => by cases h)
      change OpGoal _ _ _ f w3 Ext _
      refine og_call (P := Try.prog) _ _ _ #[f 4, f 6] Try.func57 (by kernel_rfl) (by kernel_rfl) rfl rfl (by kernel_rfl) ?_
      rw [q14, q16]
      refine (make_calls _ _ _ _ (hs.ext (E.trans hE))).mono ?_
      rintro e w' ⟨v', rfl, h1, h2⟩
      exact ⟨v', rfl, h2, h1.mono hS⟩
    case o8 =>
      intro f w3 hG hp hl
      have hE : Ext w2 w3 := hG
      have hS := hE.size
      simp only [OpGoal]
      go_simp
      exact ⟨_, rfl, Ext.refl _, rfl⟩
    case o9 =>
      intro f w3 hG hp hl
      have hE : Ext w2 w3 := hG
      have hS := hE.size
      have q18 : f 8 = .pointer (some ⟨(w.heap.size + 1), 1, none⟩) := tellV hp 0 8 rfl rfl (fun h => by cases h)
      have hcell := (B2.ext hE).cell 1
      simp only [OpGoal]
      go_simp
      exact ⟨_, rfl, Ext.refl _, rfl⟩
    case o10 =>
      intro f w3 hG hp hl
      have hE : Ext w2 w3 := hG
      have hS := hE.size
      have q17 := tellV hp 0 7 rfl rfl (fun _ => hE)
      have q19 : f 9 = t := tellV hp 1 9 rfl rfl (fun h => by cases h)
      change OpGoal _ _ _ f w3 Ext _
      refine og_call (P := Try.prog) _ _ _ #[f 7, f 9] Try.func56 (by kernel_rfl) (by kernel_rfl) rfl rfl (by kernel_rfl) ?_
      rw [q19]
      refine (lowest_calls _ _ (sgn (b != c) n) m _ (q17.isZ (by unfold szZ; rw [sgn_natAbs, LIM_eq]; omega)) (ht.ext (E.trans hE)) hm (by unfold szZ; rw [sgn_natAbs]; omega) hsm).mono ?_
      rintro e w' ⟨v', rfl, h1, h2⟩
      exact ⟨v', rfl, h2, h1.mono hS⟩
    case o11 =>
      intro f w3 hG hp hl
      have hE : Ext w2 w3 := hG
      have hS := hE.size
      have q20 := tellV hp 0 10 rfl rfl (fun _ => hE)
      intro hg0
      change OpGoal _ _ _ f w3 (Chg _) _
      obtain ⟨s', t', hv, hn, hm⟩ := q20
      exact og_store (P := Try.prog) _ _ _ (w.heap.size + 2) _ _ _ (PP.frQ _ : PP _).p rfl rfl rfl hv (show Bx 28 w3 _ _ from hg0.trans B3) (by kernel_rfl) rfl (all3 rfl hn.oneCell hm.oneCell) (fun w' h => ⟨s', t', rfl, hn.chg h (by omega), hm.chg h (by omega)⟩)
    case o12 =>
      intro f w3 hG hp hl
      have hS : w2.heap.size ≤ w3.heap.size := hG.2.2.2.1
      simp only [OpGoal]
      go_simp
      exact ⟨_, rfl, Ext.refl _, rfl⟩
  · intro f w4 hG hp
    obtain ⟨cs0, hbx0, hz0⟩ : ∃ cs, Bx 28 w4 (w.heap.size + 2) cs ∧ (PP.frQ (mkRat (sgn (b != c) n) m) : PP w2.heap.size).p (.agg cs) w4 := endS hp 11 (by decide)
    have q5 : f 12 = .int .i64 0 := endV hp 12 (by decide) rfl (fun h => by cases h)
    clear hp
    have hz1 := hz0.mono (show w.heap.size ≤ _ by omega)
    obtain ⟨s', t', hvv, hnn, hmm⟩ := hz0
    cases hvv
    go_wp2
    refine ret_box2 4 5 28 (w.heap.size + 2) 28 _ _ _ (by kernel_rfl) rfl q5 hbx0 Try.underlying28 rfl (by kernel_rfl) rfl ?_
    rw [Hx.out, Hy.out, ← mkRat_divInt b c n m hm]
    exact ⟨_, rfl, hz1, E.stepS hG (by simp)⟩

set_option maxRecDepth 100000 in
theorem rmake_zero (v u : Value) (x : Int) (w : World) (hv : IsZ w v x) (hu : IsZ w u 0) :
    Calls Try.prog 13 #[v, u] w fun e w' => e = .returned (.tuple #[zeroQ, .int .i64 3]) ∧ Ext w w' := by
  have hU := Lib.hid hu
  obtain ⟨b, s, n, rfl, hs, hx⟩ := hv
  obtain ⟨c, t, m, rfl, ht, hy2⟩ := hu
  have Hx := Lib.hid hx
  have Hy := Lib.hid hy2
  clear hx hy2
  go_enter Try.func13, Try.ntmps13
  go_wp2_with fail
  obtain ⟨w1, hw1, e1, b1, b2, b3, s1⟩ := alloc3 w #[.bool b, s] #[.bool c, t] #[.bool false, .slice none 0 0, .slice none 0 0] 24 24 28
  rw [← hw1]
  clear hw1
  refine (zsign_calls _ 0 _ (hU.out.ext e1)).mono ?_
  rintro e w2 ⟨rfl, e2⟩
  have hb := b3.ext e2
  have hc0 := hb.cell 0
  have hc1 := hb.cell 1
  have hc2 := hb.cell 2
  have hf0 := hb.free 0
  have hf1 := hb.free 1
  have hf2 := hb.free 2
  have hz : (0 : Int).sign = 0 := rfl
  go_wp2
  refine ret_box2 4 5 28 (w.heap.size + 2) 28 _ _ _ (by kernel_rfl) rfl rfl (((hb.set 0 _).set 1 _).set 2 _) Try.underlying28 rfl (by kernel_rfl) rfl ?_
  exact ⟨rfl, (e1.trans e2).step (Chg.trans (Chg.trans (Chg.setCell _ (w.heap.size + 2) 0 _) (Chg.setCell _ (w.heap.size + 2) 1 _)) (Chg.setCell _ (w.heap.size + 2) 2 _)) (by omega)⟩

set_option maxRecDepth 100000 in
theorem form_calls (v : Value) (x : Rat) (k : Nat) (w : World) (hv : IsR w v x k) (hk : k ≤ 17592186044096) :
    Calls Try.prog 44 #[v] w fun e w' => ∃ v', e = .returned v' ∧ FrQ w.heap.size w' v' x ∧ Ext w w' := by
  obtain ⟨nx, dx, hqx, rfl, knx, kdx⟩ := hv
  have hpx := hqx.pos
  have Qx := Lib.hid hqx
  obtain ⟨bx, sx, tx, mx, d0x, rfl, hsx, hnx, htx, hdx⟩ := hqx
  have Zx := Lib.hid (show IsZ w (.agg #[.bool bx, sx]) nx from ⟨_, _, _, rfl, hsx, hnx⟩)
  clear hnx hdx
  go_enter Try.func44, Try.ntmps44
  go_wp2_with fail
  obtain ⟨w1, hw1, e1, b1, b2, s1⟩ := alloc2 w #[.bool bx, sx, tx] #[.bool false, .slice none 0 0, .slice none 0 0] 28 28
  rw [← hw1]
  clear hw1
  refine wp_region_puts [⟨5, (w.heap.size + 1), 28, PP.frQ (mkRat nx dx)⟩] [PP.val (.pointer (some ⟨w.heap.size, 0, none⟩)), PP.val (.agg #[.bool bx, sx]), PP.val (.agg #[.bool bx, sx, tx]), PP.isN .u64 W dx, PP.frQ (mkRat nx dx), PP.any] [] [5, 4, 3, 2, 1, 0]
    (by kernel_rfl) (by kernel_rfl) (fun f => (by simp only [fillR, fillL, List.setIfInBounds_toArray, List.set_cons_succ, List.set_cons_zero, Nat.reduceAdd]; rfl)) ?_ ?_ ?_ ?_ ?_
  · intro x hx; simp only [List.mem_singleton] at hx; subst hx; exact ⟨by show (w.heap.size + 1) < w1.heap.size; omega, rfl⟩
  · intro x hx; simp only [List.mem_singleton] at hx; subst hx; rfl
  · intro x hx y hy h; simp only [List.mem_singleton] at hx hy; subst hx hy; exact absurd rfl h
  · refine ⟨?o0, ?o1, ?o2, ?o3, ?o4, ?o5, trivial⟩
    case o0 =>
      intro f w2 hG hp hl
      have hE : Ext w1 w2 := hG
      have hS := hE.size
      simp only [OpGoal]
      go_simp
      exact ⟨_, rfl, Ext.refl _, rfl⟩
    case o1 =>
      intro f w2 hG hp hl
      have hE : Ext w1 w2 := hG
      have hS := hE.size
      have q3 : f 0 = .pointer (some ⟨w.heap.size, 0, none⟩) := tellV hp 0 0 rfl rfl (fun h => by cases h)
      have hbx := b1.ext hE
      have hcell0 := hbx.cell 0
      have hcell1 := hbx.cell 1
      have hcell2 := hbx.cell 2
      simp only [OpGoal]
      go_simp
      exact ⟨_, rfl, Ext.refl _, rfl⟩
    case o2 =>
      intro f w2 hG hp hl
      have hE : Ext w1 w2 := hG
      have hS := hE.size
      change OpGoal _ _ _ f w2 Ext _
      exact og_load (P := Try.prog) _ _ w.heap.size _ _ _ rfl rfl rfl (b1.ext hE) Try.underlying28 rfl (by kernel_rfl) rfl
    case o3 =>
      intro f w2 hG hp hl
      have hE : Ext w1 w2 := hG
      have hS := hE.size
      have q5 : f 2 = .agg #[.bool bx, sx, tx] := tellV hp 0 2 rfl rfl (fun h => by cases h)
      change OpGoal _ _ _ f w2 Ext _
      refine og_call (P := Try.prog) _ _ _ #[f 2] Try.func67 (by kernel_rfl) (by kernel_rfl) rfl rfl (by kernel_rfl) ?_
      rw [q5]
      refine (under_calls _ nx dx _ (Qx.out.ext (e1.trans hE))).mono ?_
      rintro e w' ⟨v', rfl, h1, h2⟩
      exact ⟨v', rfl, h2, h1⟩
    case o4 =>
      intro f w2 hG hp hl
      have hE : Ext w1 w2 := hG
      have hS := hE.size
      have q4 : f 1 = .agg #[.bool bx, sx] := tellV hp 0 1 rfl rfl (fun h => by cases h)
      have q6 := tellV hp 1 3 rfl rfl (fun _ => hE)
      change OpGoal _ _ _ f w2 Ext _
      refine og_call (P := Try.prog) _ _ _ #[f 1, f 3] Try.func56 (by kernel_rfl) (by kernel_rfl) rfl rfl (by kernel_rfl) ?_
      rw [q4]
      refine (lowest_calls _ _ nx dx _ (Zx.out.ext (e1.trans hE)) q6 hpx (by omega) (by omega)).mono ?_
      rintro e w' ⟨v', rfl, h1, h2⟩
      exact ⟨v', rfl, h2, h1.mono hS⟩
    case o5 =>
      intro f w2 hG hp hl
      have hE : Ext w1 w2 := hG
      have hS := hE.size
      have q7 := tellV hp 0 4 rfl rfl (fun _ => hE)
      intro hg0
      change OpGoal _ _ _ f w2 (Chg _) _
      obtain ⟨s', t', hv, hn, hm⟩ := q7
      exact og_store (P := Try.prog) _ _ _ (w.heap.size + 1) _ _ _ (PP.frQ _ : PP _).p rfl rfl rfl hv (show Bx 28 w2 _ _ from hg0.trans b2) (by kernel_rfl) rfl (all3 rfl hn.oneCell hm.oneCell) (fun w' h => ⟨s', t', rfl, hn.chg h (by omega), hm.chg h (by omega)⟩)
  · intro f w2 hG hp
    obtain ⟨cs0, hbx0, hz0⟩ : ∃ cs, Bx 28 w2 (w.heap.size + 1) cs ∧ (PP.frQ (mkRat nx dx) : PP w1.heap.size).p (.agg cs) w2 := endS hp 5 (by decide)
    clear hp
    have hz1 := hz0.mono (show w.heap.size ≤ _ by omega)
    obtain ⟨s', t', hvv, hnn, hmm⟩ := hz0
    cases hvv
    go_wp2
    refine ret_box 2 28 (w.heap.size + 1) 28 _ _ (by kernel_rfl) rfl hbx0 Try.underlying28 rfl (by kernel_rfl) rfl ?_
    exact ⟨_, rfl, hz1, e1.stepS hG (by simp)⟩

set_option maxRecDepth 100000 in
theorem rneg_calls (v : Value) (x : Rat) (k : Nat) (w : World) (hv : IsR w v x k) (hk : k ≤ 17592186044096) :
    Calls Try.prog 47 #[v] w fun e w' => ∃ v', e = .returned v' ∧ FrQ w.heap.size w' v' (-x) ∧ Ext w w' := by
  obtain ⟨nx, dx, hqx, rfl, knx, kdx⟩ := hv
  have hpx := hqx.pos
  have Qx := Lib.hid hqx
  obtain ⟨bx, sx, tx, mx, d0x, rfl, hsx, hnx, htx, hdx⟩ := hqx
  have Zx := Lib.hid (show IsZ w (.agg #[.bool bx, sx]) nx from ⟨_, _, _, rfl, hsx, hnx⟩)
  clear hnx hdx
  go_enter Try.func47, Try.ntmps47
  go_wp2_with fail
  obtain ⟨w1, hw1, e1, b1, b2, s1⟩ := alloc2 w #[.bool bx, sx, tx] #[.bool false, .slice none 0 0, .slice none 0 0] 28 28
  rw [← hw1]
  clear hw1
  refine wp_region_puts [⟨6, (w.heap.size + 1), 28, PP.frQ (mkRat (-nx) dx)⟩] [PP.val (.pointer (some ⟨w.heap.size, 0, none⟩)), PP.val (.agg #[.bool bx, sx]), PP.frZ (-nx), PP.val (.agg #[.bool bx, sx, tx]), PP.isN .u64 W dx, PP.frQ (mkRat (-nx) dx), PP.any] [] [6, 5, 4, 3, 2, 1, 0]
    (by kernel_rfl) (by kernel_rfl) (fun f => (by simp only [fillR, fillL, List.setIfInBounds_toArray, List.set_cons_succ, List.set_cons_zero, Nat.reduceAdd]; rfl)) ?_ ?_ ?_ ?_ ?_
  · intro x hx; simp only [List.mem_singleton] at hx; subst hx; exact ⟨by show (w.heap.size + 1) < w1.heap.size; omega, rfl⟩
  · intro x hx; simp only [List.mem_singleton] at hx; subst hx; rfl
  · intro x hx y hy h; simp only [List.mem_singleton] at hx hy; subst hx hy; exact absurd rfl h
  · refine ⟨?o0, ?o1, ?o2, ?o3, ?o4, ?o5, ?o6, trivial⟩
    case o0 =>
      intro f w2 hG hp hl
      have hE : Ext w1 w2 := hG
      have hS := hE.size
      simp only [OpGoal]
      go_simp
      exact ⟨_, rfl, Ext.refl _, rfl⟩
    case o1 =>
      intro f w2 hG hp hl
      have hE : Ext w1 w2 := hG
      have hS := hE.size
      have q3 : f 0 = .pointer (some ⟨w.heap.size, 0, none⟩) := tellV hp 0 0 rfl rfl (fun h => by cases h)
      have hbx := b1.ext hE
      have hcell0 := hbx.cell 0
      have hcell1 := hbx.cell 1
      have hcell2 := hbx.cell 2
      simp only [OpGoal]
      go_simp
      exact ⟨_, rfl, Ext.refl _, rfl⟩
    case o2 =>
      intro f w2 hG hp hl
      have hE : Ext w1 w2 := hG
      have hS := hE.size
      have q4 : f 1 = .agg #[.bool bx, sx] := tellV hp 0 1 rfl rfl (fun h => by cases h)
      change OpGoal _ _ _ f w2 Ext _
      refine og_call (P := Try.prog) _ _ _ #[f 1] Try.func68 (by kernel_rfl) (by kernel_rfl) rfl rfl (by kernel_rfl) ?_
      rw [q4]
      refine (zneg_calls _ nx _ (Zx.out.ext (e1.trans hE))).mono ?_
      rintro e w' ⟨v', rfl, h1, h2⟩
      exact ⟨v', rfl, h2, h1.mono hS⟩
    case o3 =>
      intro f w2 hG hp hl
      have hE : Ext w1 w2 := hG
      have hS := hE.size
      change OpGoal _ _ _ f w2 Ext _
      exact og_load (P := Try.prog) _ _ w.heap.size _ _ _ rfl rfl rfl (b1.ext hE) Try.underlying28 rfl (by kernel_rfl) rfl
    case o4 =>
      intro f w2 hG hp hl
      have hE : Ext w1 w2 := hG
      have hS := hE.size
      have q6 : f 3 = .agg #[.bool bx, sx, tx] := tellV hp 0 3 rfl rfl (fun h => by cases h)
      change OpGoal _ _ _ f w2 Ext _
      refine og_call (P := Try.prog) _ _ _ #[f 3] Try.func67 (by kernel_rfl) (by kernel_rfl) rfl rfl (by kernel_rfl) ?_
      rw [q6]
      refine (under_calls _ nx dx _ (Qx.out.ext (e1.trans hE))).mono ?_
      rintro e w' ⟨v', rfl, h1, h2⟩
      exact ⟨v', rfl, h2, h1⟩
    case o5 =>
      intro f w2 hG hp hl
      have hE : Ext w1 w2 := hG
      have hS := hE.size
      have q5 := tellV hp 0 2 rfl rfl (fun _ => hE)
      have q7 := tellV hp 1 4 rfl rfl (fun _ => hE)
      change OpGoal _ _ _ f w2 Ext _
      refine og_call (P := Try.prog) _ _ _ #[f 2, f 4] Try.func56 (by kernel_rfl) (by kernel_rfl) rfl rfl (by kernel_rfl) ?_
      refine (lowest_calls _ _ (-nx) dx _ (q5.isZ (by rw [szZ_neg, LIM_eq]; omega)) q7 hpx (by rw [szZ_neg]; omega) (by omega)).mono ?_
      rintro e w' ⟨v', rfl, h1, h2⟩
      exact ⟨v', rfl, h2, h1.mono hS⟩
    case o6 =>
      intro f w2 hG hp hl
      have hE : Ext w1 w2 := hG
      have hS := hE.size
      have q8 := tellV hp 0 5 rfl rfl (fun _ => hE)
      intro hg0
      change OpGoal _ _ _ f w2 (Chg _) _
      obtain ⟨s', t', hv, hn, hm⟩ := q8
      exact og_store (P := Try.prog) _ _ _ (w.heap.size + 1) _ _ _ (PP.frQ _ : PP _).p rfl rfl rfl hv (show Bx 28 w2 _ _ from hg0.trans b2) (by kernel_rfl) rfl (all3 rfl hn.oneCell hm.oneCell) (fun w' h => ⟨s', t', rfl, hn.chg h (by omega), hm.chg h (by omega)⟩)
  · intro f w2 hG hp
    obtain ⟨cs0, hbx0, hz0⟩ : ∃ cs, Bx 28 w2 (w.heap.size + 1) cs ∧ (PP.frQ (mkRat (-nx) dx) : PP w1.heap.size).p (.agg cs) w2 := endS hp 6 (by decide)
    clear hp
    have hz1 := hz0.mono (show w.heap.size ≤ _ by omega)
    obtain ⟨s', t', hvv, hnn, hmm⟩ := hz0
    cases hvv
    go_wp2
    refine ret_box 2 28 (w.heap.size + 1) 28 _ _ (by kernel_rfl) rfl hbx0 Try.underlying28 rfl (by kernel_rfl) rfl ?_
    rw [Rat.neg_mkRat]
    exact ⟨_, rfl, hz1, e1.stepS hG (by simp)⟩

set_option maxRecDepth 100000 in
theorem rsign_calls (v : Value) (x : Rat) (k : Nat) (w : World) (hv : IsR w v x k) :
    Calls Try.prog 45 #[v] w fun e w' => e = .returned (.int .i64 x.num.sign) ∧ Ext w w' := by
  obtain ⟨nx, dx, hqx, rfl, knx, kdx⟩ := hv
  have hpx := hqx.pos
  have Qx := Lib.hid hqx
  obtain ⟨bx, sx, tx, mx, d0x, rfl, hsx, hnx, htx, hdx⟩ := hqx
  have Zx := Lib.hid (show IsZ w (.agg #[.bool bx, sx]) nx from ⟨_, _, _, rfl, hsx, hnx⟩)
  clear hnx hdx
  go_enter Try.func45, Try.ntmps45
  obtain ⟨w1, hw1, e1, b1, s1⟩ := alloc1 w #[.bool bx, sx, tx] 28
  have hc0 := b1.cell 0
  have hc1 := b1.cell 1
  have hc2 := b1.cell 2
  rw [hw1] at hc0 hc1 hc2
  go_wp2_with fail
  rw [← hw1]
  refine (zsign_calls _ nx _ (Zx.out.ext e1)).mono ?_
  rintro e w2 ⟨rfl, e2⟩
  go_wp2
  go_ret
  exact ⟨by rw [mkRat_sign nx dx hpx]; rfl, e1.trans e2⟩
end Go.Proofs.Ytnefipinicfegaa
