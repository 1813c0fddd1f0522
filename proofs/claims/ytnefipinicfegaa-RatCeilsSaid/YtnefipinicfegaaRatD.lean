/-
  rat's functions, walked (IV): quotients, whole numbers, rounding.
-/
import Derived.Test.YtnefipinicfegaaRatC
import Derived.Test.YtnefipinicfegaaAl
namespace Go.Proofs.Ytnefipinicfegaa
open Go.RowKit
set_option linter.unusedVariables false
set_option linter.unusedSimpArgs false

set_option maxRecDepth 100000 in
theorem div_mkRat (n m : Int) (d e : Nat) : mkRat n d / mkRat m e = Rat.divInt (n * e) (m * d) := by
  rw [Rat.div_def, ← Rat.divInt_ofNat n d, ← Rat.divInt_ofNat m e, Rat.inv_divInt, Rat.divInt_mul_divInt, Int.mul_comm (d : Int) m]
set_option maxRecDepth 100000 in
theorem szQ_divInt (x y : Int) (hy : y ≠ 0) : szQ (Rat.divInt x y) ≤ max (szZ x) (szZ y) := by
  have h := mkRat_divInt (decide (x < 0)) (decide (y < 0)) x.natAbs y.natAbs (by omega)
  rw [sgn_self, sgn_self] at h
  rw [← h]
  have := szQ_mkRat (sgn (decide (x < 0) != decide (y < 0)) x.natAbs) y.natAbs (by omega)
  have e : szZ (sgn (decide (x < 0) != decide (y < 0)) x.natAbs) = szZ x := by unfold szZ; rw [sgn_natAbs]
  rw [e] at this
  unfold szQ
  have e2 : sz W y.natAbs = szZ y := rfl
  rw [e2] at this
  omega
def PP.tupQ {S : Nat} (q : Rat) : PP S := ⟨false, fun u w => ∃ v, u = .tuple #[v, .int .i64 0] ∧ FrQ S w v q, fun _ _ _ h hp => (let ⟨v, h1, h2⟩ := hp; ⟨v, h1, h2.ext h⟩), fun _ _ hg _ _ _ h hp => (let ⟨v, h1, h2⟩ := hp; ⟨v, h1, h2.chg h hg⟩)⟩
def PA.tupQ {S : Nat} (q : Rat) : PA S := ⟨fun u w => ∃ v, u = .tuple #[v, .int .i64 0] ∧ FrQ S w v q, fun _ _ _ h hp => (let ⟨v, h1, h2⟩ := hp; ⟨v, h1, h2.ext h⟩), fun _ _ _ h hp => (let ⟨v, h1, h2⟩ := hp; ⟨v, h1, h2.schg h⟩)⟩
def PA.tupZ {S : Nat} (x y : Int) : PA S := ⟨fun u w => ∃ v1 v2, u = .tuple #[v1, v2, .int .i64 0] ∧ FrZ S w v1 x ∧ FrZ S w v2 y, fun _ _ _ h hp => (let ⟨v, v2, h1, h2, h3⟩ := hp; ⟨v, v2, h1, h2.ext h, h3.ext h⟩), fun _ _ _ h hp => (let ⟨v, v2, h1, h2, h3⟩ := hp; ⟨v, v2, h1, h2.schg h, h3.schg h⟩)⟩
/-- A struct of no sign and a number. -/
def PA.aggN {S : Nat} (n : Nat) : PA S := ⟨fun u w => ∃ t, u = .agg #[.bool false, t] ∧ IsN .u64 W w t n, fun _ _ _ h hp => (let ⟨v, h1, h2⟩ := hp; ⟨v, h1, h2.ext h⟩), fun _ _ _ h hp => (let ⟨v, h1, h2⟩ := hp; ⟨v, h1, h2.schg h⟩)⟩

set_option maxRecDepth 100000 in
theorem rdiv_calls (v u : Value) (x y : Rat) (k l : Nat) (w : World) (hv : IsR w v x k) (hu : IsR w u y l) (hy : y ≠ 0) (hkl : k + l ≤ 17592186044090) :
    Calls Try.prog 38 #[v, u] w fun e w' => ∃ v', e = .returned (.tuple #[v', .int .i64 0]) ∧ FrQ w.heap.size w' v' (x / y) ∧ szQ (x / y) ≤ k + l ∧ Ext w w' := by
  obtain ⟨nx, dx, hqx, rfl, knx, kdx⟩ := hv
  have hpx := hqx.pos
  have Qx := Lib.hid hqx
  obtain ⟨bx, sx, tx, mx, d0x, rfl, hsx, hnx, htx, hdx⟩ := hqx
  have Zx := Lib.hid (show IsZ w (.agg #[.bool bx, sx]) nx from ⟨_, _, _, rfl, hsx, hnx⟩)
  clear hnx hdx
  obtain ⟨ny, dy, hqy, rfl, kny, kdy⟩ := hu
  have hpy := hqy.pos
  have Qy := Lib.hid hqy
  obtain ⟨by_, sy, ty, my, d0y, rfl, hsy, hny, hty, hdy⟩ := hqy
  have Zy := Lib.hid (show IsZ w (.agg #[.bool by_, sy]) ny from ⟨_, _, _, rfl, hsy, hny⟩)
  clear hny hdy
  have sxy := szZ_mul nx dy
  have syx := szZ_mul ny dx
  have s1' : szZ (dx : Int) = sz W dx := rfl
  have s2' : szZ (dy : Int) = sz W dy := rfl
  have hny : ny ≠ 0 := fun h => hy (by rw [h, Rat.zero_mkRat])
  have hnz : ny * (dx : Int) ≠ 0 := Int.mul_ne_zero hny (by omega)
  have Hq := Lib.hid (div_mkRat nx ny dx dy)
  have Hsz := Lib.hid (show szQ (Rat.divInt (nx * dy) (ny * dx)) ≤ k + l from Nat.le_trans (szQ_divInt _ _ hnz) (by omega))
  go_enter Try.func38, Try.ntmps38
  go_wp2_with fail
  obtain ⟨w1, hw1, e1, b1, b2, b3, s1⟩ := alloc3 w #[.bool bx, sx, tx] #[.bool by_, sy, ty] #[.bool false, .slice none 0 0, .slice none 0 0] 28 28 28
  rw [← hw1]
  clear hw1
  refine wp_region_puts [⟨11, (w.heap.size + 2), 28, PP.frQ (Rat.divInt (nx * dy) (ny * dx))⟩] [PP.val (.agg #[.bool bx, sx, tx]), PP.val (.agg #[.bool by_, sy, ty]), PP.isN .u64 W dy, PP.frZ (nx * dy), PP.val (.agg #[.bool by_, sy, ty]), PP.val (.agg #[.bool bx, sx, tx]), PP.isN .u64 W dx, PP.frZ (ny * dx), PP.tupQ (Rat.divInt (nx * dy) (ny * dx)), PP.frQ (Rat.divInt (nx * dy) (ny * dx)), PP.val (.int .i64 0), PP.any, PP.val (.int .i64 0)] [] [11, 10, 9, 8, 7, 6, 5, 4, 3, 2, 1, 0]
    (by kernel_rfl) (by kernel_rfl) (fun f => (by simp only [fillR, fillL, List.setIfInBounds_toArray, List.set_cons_succ, List.set_cons_zero, Nat.reduceAdd]; rfl)) ?_ ?_ ?_ ?_ ?_
  · intro x hx; simp only [List.mem_singleton] at hx; subst hx; exact ⟨by show (w.heap.size + 2) < w1.heap.size; omega, rfl⟩
  · intro x hx; simp only [List.mem_singleton] at hx; subst hx; rfl
  · intro x hx y hy h; simp only [List.mem_singleton] at hx hy; subst hx hy; exact absurd rfl h
  · refine ⟨?o0, ?o1, ?o2, ?o3, ?o4, ?o5, ?o6, ?o7, ?o8, ?o9, ?o10, ?o11, ?o12, trivial⟩
    case o0 =>
      intro f w2 hG hp hl
      have hE : Ext w1 w2 := hG
      have hS := hE.size
      change OpGoal _ _ _ f w2 Ext _
      exact og_load (P := Try.prog) _ _ w.heap.size _ _ _ rfl rfl rfl (b1.ext hE) Try.underlying28 rfl (by kernel_rfl) rfl
    case o1 =>
      intro f w2 hG hp hl
      have hE : Ext w1 w2 := hG
      have hS := hE.size
      change OpGoal _ _ _ f w2 Ext _
      exact og_load (P := Try.prog) _ _ (w.heap.size + 1) _ _ _ rfl rfl rfl (b2.ext hE) Try.underlying28 rfl (by kernel_rfl) rfl
    case o2 =>
      intro f w2 hG hp hl
      have hE : Ext w1 w2 := hG
      have hS := hE.size
      have q7 : f 1 = .agg #[.bool by_, sy, ty] := tellV hp 0 1 rfl rfl (fun h => by cases h)
      change OpGoal _ _ _ f w2 Ext _
      refine og_call (P := Try.prog) _ _ _ #[f 1] Try.func67 (by kernel_rfl) (by kernel_rfl) rfl rfl (by kernel_rfl) ?_
      rw [q7]
      refine (under_calls _ ny dy _ (Qy.out.ext (e1.trans hE))).mono ?_
      rintro e w' ⟨v', rfl, h1, h2⟩
      exact ⟨v', rfl, h2, h1⟩
    case o3 =>
      intro f w2 hG hp hl
      have hE : Ext w1 w2 := hG
      have hS := hE.size
      have q6 : f 0 = .agg #[.bool bx, sx, tx] := tellV hp 0 0 rfl rfl (fun h => by cases h)
      have q8 := tellV hp 1 2 rfl rfl (fun _ => hE)
      change OpGoal _ _ _ f w2 Ext _
      refine og_call (P := Try.prog) _ _ _ #[f 0, f 2] Try.func72 (by kernel_rfl) (by kernel_rfl) rfl rfl (by kernel_rfl) ?_
      rw [q6]
      refine (over_calls _ _ nx dx dy _ (Qx.out.ext (e1.trans hE)) q8 (by omega)).mono ?_
      rintro e w' ⟨v', rfl, h1, h2⟩
      exact ⟨v', rfl, h2, h1.mono hS⟩
    case o4 =>
      intro f w2 hG hp hl
      have hE : Ext w1 w2 := hG
      have hS := hE.size
      change OpGoal _ _ _ f w2 Ext _
      exact og_load (P := Try.prog) _ _ (w.heap.size + 1) _ _ _ rfl rfl rfl (b2.ext hE) Try.underlying28 rfl (by kernel_rfl) rfl
    case o5 =>
      intro f w2 hG hp hl
      have hE : Ext w1 w2 := hG
      have hS := hE.size
      change OpGoal _ _ _ f w2 Ext _
      exact og_load (P := Try.prog) _ _ w.heap.size _ _ _ rfl rfl rfl (b1.ext hE) Try.underlying28 rfl (by kernel_rfl) rfl
    case o6 =>
      intro f w2 hG hp hl
      have hE : Ext w1 w2 := hG
      have hS := hE.size
      have q11 : f 5 = .agg #[.bool bx, sx, tx] := tellV hp 0 5 rfl rfl (fun h => by cases h)
      change OpGoal _ _ _ f w2 Ext _
      refine og_call (P := Try.prog) _ _ _ #[f 5] Try.func67 (by kernel_rfl) (by kernel_rfl) rfl rfl (by kernel_rfl) ?_
      rw [q11]
      refine (under_calls _ nx dx _ (Qx.out.ext (e1.trans hE))).mono ?_
      rintro e w' ⟨v', rfl, h1, h2⟩
      exact ⟨v', rfl, h2, h1⟩
    case o7 =>
      intro f w2 hG hp hl
      have hE : Ext w1 w2 := hG
      have hS := hE.size
      have q10 : f 4 = .agg #[.bool by_, sy, ty] := tellV hp 0 4 rfl rfl (fun h => by cases h)
      have q12 := tellV hp 1 6 rfl rfl (fun _ => hE)
      change OpGoal _ _ _ f w2 Ext _
      refine og_call (P := Try.prog) _ _ _ #[f 4, f 6] Try.func72 (by kernel_rfl) (by kernel_rfl) rfl rfl (by kernel_rfl) ?_
      rw [q10]
      refine (over_calls _ _ ny dy dx _ (Qy.out.ext (e1.trans hE)) q12 (by omega)).mono ?_
      rintro e w' ⟨v', rfl, h1, h2⟩
      exact ⟨v', rfl, h2, h1.mono hS⟩
    case o8 =>
      intro f w2 hG hp hl
      have hE : Ext w1 w2 := hG
      have hS := hE.size
      have q9 := tellV hp 0 3 rfl rfl (fun _ => hE)
      have q13 := tellV hp 1 7 rfl rfl (fun _ => hE)
      change OpGoal _ _ _ f w2 Ext _
      refine og_call (P := Try.prog) _ _ _ #[f 3, f 7] Try.func13 (by kernel_rfl) (by kernel_rfl) rfl rfl (by kernel_rfl) ?_
      refine (rmake_calls _ _ (nx * dy) (ny * dx) _ (q9.isZ (by rw [LIM_eq]; omega)) (q13.isZ (by rw [LIM_eq]; omega)) hnz (by omega) (by omega)).mono ?_
      rintro e w' ⟨v', rfl, h1, h2⟩
      exact ⟨_, rfl, h2, v', rfl, h1.mono hS⟩
    case o9 =>
      intro f w2 hG hp hl
      have hE : Ext w1 w2 := hG
      have hS := hE.size
      have q14 := tellV hp 0 8 rfl rfl (fun _ => hE)
      obtain ⟨v', hv, hq⟩ := q14
      simp only [OpGoal]
      go_simp
      exact ⟨_, rfl, Ext.refl _, hq⟩
    case o10 =>
      intro f w2 hG hp hl
      have hE : Ext w1 w2 := hG
      have hS := hE.size
      have q14 := tellV hp 0 8 rfl rfl (fun _ => hE)
      obtain ⟨v', hv, hq⟩ := q14
      simp only [OpGoal]
      go_simp
      exact ⟨_, rfl, Ext.refl _, rfl⟩
    case o11 =>
      intro f w2 hG hp hl
      have hE : Ext w1 w2 := hG
      have hS := hE.size
      have q15 := tellV hp 0 9 rfl rfl (fun _ => hE)
      intro hg0
      change OpGoal _ _ _ f w2 (Chg _) _
      obtain ⟨s', t', hv, hn, hm⟩ := q15
      exact og_store (P := Try.prog) _ _ _ (w.heap.size + 2) _ _ _ (PP.frQ _ : PP _).p rfl rfl rfl hv (show Bx 28 w2 _ _ from hg0.trans b3) (by kernel_rfl) rfl (all3 rfl hn.oneCell hm.oneCell) (fun w' h => ⟨s', t', rfl, hn.chg h (by omega), hm.chg h (by omega)⟩)
    case o12 =>
      intro f w2 hG hp hl
      have hS : w1.heap.size ≤ w2.heap.size := hG.2.2.2.1
      have q16 : f 10 = .int .i64 0 := tellV hp 0 10 rfl rfl (fun h => by cases h)
      simp only [OpGoal]
      go_simp
      exact ⟨_, rfl, Ext.refl _, rfl⟩
  · intro f w2 hG hp
    obtain ⟨cs0, hbx0, hz0⟩ : ∃ cs, Bx 28 w2 (w.heap.size + 2) cs ∧ (PP.frQ (Rat.divInt (nx * dy) (ny * dx)) : PP w1.heap.size).p (.agg cs) w2 := endS hp 11 (by decide)
    have q5 : f 12 = .int .i64 0 := endV hp 12 (by decide) rfl (fun h => by cases h)
    clear hp
    have hz1 := hz0.mono (show w.heap.size ≤ _ by omega)
    obtain ⟨s', t', hvv, hnn, hmm⟩ := hz0
    cases hvv
    go_wp2
    refine ret_box2 4 5 28 (w.heap.size + 2) 28 _ _ _ (by kernel_rfl) rfl q5 hbx0 Try.underlying28 rfl (by kernel_rfl) rfl ?_
    rw [Hq.out]
    exact ⟨_, rfl, hz1, Hsz.out, e1.stepS hG (by simp)⟩

set_option maxRecDepth 100000 in
theorem rdiv_zero (v u : Value) (x : Rat) (k l : Nat) (w : World) (hv : IsR w v x k) (hu : IsR w u 0 l) (hkl : k + l ≤ 17592186044090) :
    Calls Try.prog 38 #[v, u] w fun e w' => e = .returned (.tuple #[zeroQ, .int .i64 3]) ∧ Ext w w' := by
  obtain ⟨nx, dx, hqx, rfl, knx, kdx⟩ := hv
  have hpx := hqx.pos
  have Qx := Lib.hid hqx
  obtain ⟨bx, sx, tx, mx, d0x, rfl, hsx, hnx, htx, hdx⟩ := hqx
  have Zx := Lib.hid (show IsZ w (.agg #[.bool bx, sx]) nx from ⟨_, _, _, rfl, hsx, hnx⟩)
  clear hnx hdx
  obtain ⟨ny, dy, hqy, hy0, kny, kdy⟩ := hu
  have hpy := hqy.pos
  have hny : ny = 0 := (Rat.mkRat_eq_zero (by omega)).1 hy0.symm
  have Qy := Lib.hid hqy
  obtain ⟨by_, sy, ty, my, d0y, rfl, hsy, _, hty, _⟩ := hqy
  have sxy := szZ_mul nx dy
  have syx := szZ_mul ny dx
  have s1' : szZ (dx : Int) = sz W dx := rfl
  have s2' : szZ (dy : Int) = sz W dy := rfl
  have hnz : ny * (dx : Int) = 0 := by rw [hny, Int.zero_mul]
  have Hz := Lib.hid hnz
  clear hny hnz hy0
  go_enter Try.func38, Try.ntmps38
  go_wp2_with fail
  obtain ⟨w1, hw1, e1, b1, b2, b3, s1⟩ := alloc3 w #[.bool bx, sx, tx] #[.bool by_, sy, ty] #[.bool false, .slice none 0 0, .slice none 0 0] 28 28 28
  rw [← hw1]
  clear hw1
  refine wp_region_puts [⟨11, (w.heap.size + 2), 28, PP.val (.agg #[.bool false, .slice none 0 0, .slice none 0 0])⟩] [PP.val (.agg #[.bool bx, sx, tx]), PP.val (.agg #[.bool by_, sy, ty]), PP.isN .u64 W dy, PP.frZ (nx * dy), PP.val (.agg #[.bool by_, sy, ty]), PP.val (.agg #[.bool bx, sx, tx]), PP.isN .u64 W dx, PP.frZ (ny * dx), PP.val (.tuple #[.agg #[.bool false, .slice none 0 0, .slice none 0 0], .int .i64 3]), PP.val (.agg #[.bool false, .slice none 0 0, .slice none 0 0]), PP.val (.int .i64 3), PP.any, PP.val (.int .i64 3)] [] [11, 10, 9, 8, 7, 6, 5, 4, 3, 2, 1, 0]
    (by kernel_rfl) (by kernel_rfl) (fun f => (by simp only [fillR, fillL, List.setIfInBounds_toArray, List.set_cons_succ, List.set_cons_zero, Nat.reduceAdd]; rfl)) ?_ ?_ ?_ ?_ ?_
  · intro x hx; simp only [List.mem_singleton] at hx; subst hx; exact ⟨by show (w.heap.size + 2) < w1.heap.size; omega, rfl⟩
  · intro x hx; simp only [List.mem_singleton] at hx; subst hx; rfl
  · intro x hx y hy h; simp only [List.mem_singleton] at hx hy; subst hx hy; exact absurd rfl h
  · refine ⟨?o0, ?o1, ?o2, ?o3, ?o4, ?o5, ?o6, ?o7, ?o8, ?o9, ?o10, ?o11, ?o12, trivial⟩
    case o0 =>
      intro f w2 hG hp hl
      have hE : Ext w1 w2 := hG
      have hS := hE.size
      change OpGoal _ _ _ f w2 Ext _
      exact og_load (P := Try.prog) _ _ w.heap.size _ _ _ rfl rfl rfl (b1.ext hE) Try.underlying28 rfl (by kernel_rfl) rfl
    case o1 =>
      intro f w2 hG hp hl
      have hE : Ext w1 w2 := hG
      have hS := hE.size
      change OpGoal _ _ _ f w2 Ext _
      exact og_load (P := Try.prog) _ _ (w.heap.size + 1) _ _ _ rfl rfl rfl (b2.ext hE) Try.underlying28 rfl (by kernel_rfl) rfl
    case o2 =>
      intro f w2 hG hp hl
      have hE : Ext w1 w2 := hG
      have hS := hE.size
      have q7 : f 1 = .agg #[.bool by_, sy, ty] := tellV hp 0 1 rfl rfl (fun h => by cases h)
      change OpGoal _ _ _ f w2 Ext _
      refine og_call (P := Try.prog) _ _ _ #[f 1] Try.func67 (by kernel_rfl) (by kernel_rfl) rfl rfl (by kernel_rfl) ?_
      rw [q7]
      refine (under_calls _ ny dy _ (Qy.out.ext (e1.trans hE))).mono ?_
      rintro e w' ⟨v', rfl, h1, h2⟩
      exact ⟨v', rfl, h2, h1⟩
    case o3 =>
      intro f w2 hG hp hl
      have hE : Ext w1 w2 := hG
      have hS := hE.size
      have q6 : f 0 = .agg #[.bool bx, sx, tx] := tellV hp 0 0 rfl rfl (fun h => by cases h)
      have q8 := tellV hp 1 2 rfl rfl (fun _ => hE)
      change OpGoal _ _ _ f w2 Ext _
      refine og_call (P := Try.prog) _ _ _ #[f 0, f 2] Try.func72 (by kernel_rfl) (by kernel_rfl) rfl rfl (by kernel_rfl) ?_
      rw [q6]
      refine (over_calls _ _ nx dx dy _ (Qx.out.ext (e1.trans hE)) q8 (by omega)).mono ?_
      rintro e w' ⟨v', rfl, h1, h2⟩
      exact ⟨v', rfl, h2, h1.mono hS⟩
    case o4 =>
      intro f w2 hG hp hl
      have hE : Ext w1 w2 := hG
      have hS := hE.size
      change OpGoal _ _ _ f w2 Ext _
      exact og_load (P := Try.prog) _ _ (w.heap.size + 1) _ _ _ rfl rfl rfl (b2.ext hE) Try.underlying28 rfl (by kernel_rfl) rfl
    case o5 =>
      intro f w2 hG hp hl
      have hE : Ext w1 w2 := hG
      have hS := hE.size
      change OpGoal _ _ _ f w2 Ext _
      exact og_load (P := Try.prog) _ _ w.heap.size _ _ _ rfl rfl rfl (b1.ext hE) Try.underlying28 rfl (by kernel_rfl) rfl
    case o6 =>
      intro f w2 hG hp hl
      have hE : Ext w1 w2 := hG
      have hS := hE.size
      have q11 : f 5 = .agg #[.bool bx, sx, tx] := tellV hp 0 5 rfl rfl (fun h => by cases h)
      change OpGoal _ _ _ f w2 Ext _
      refine og_call (P := Try.prog) _ _ _ #[f 5] Try.func67 (by kernel_rfl) (by kernel_rfl) rfl rfl (by kernel_rfl) ?_
      rw [q11]
      refine (under_calls _ nx dx _ (Qx.out.ext (e1.trans hE))).mono ?_
      rintro e w' ⟨v', rfl, h1, h2⟩
      exact ⟨v', rfl, h2, h1⟩
    case o7 =>
      intro f w2 hG hp hl
      have hE : Ext w1 w2 := hG
      have hS := hE.size
      have q10 : f 4 = .agg #[.bool by_, sy, ty] := tellV hp 0 4 rfl rfl (fun h => by cases h)
      have q12 := tellV hp 1 6 rfl rfl (fun _ => hE)
      change OpGoal _ _ _ f w2 Ext _
      refine og_call (P := Try.prog) _ _ _ #[f 4, f 6] Try.func72 (by kernel_rfl) (by kernel_rfl) rfl rfl (by kernel_rfl) ?_
      rw [q10]
      refine (over_calls _ _ ny dy dx _ (Qy.out.ext (e1.trans hE)) q12 (by omega)).mono ?_
      rintro e w' ⟨v', rfl, h1, h2⟩
      exact ⟨v', rfl, h2, h1.mono hS⟩
    case o8 =>
      intro f w2 hG hp hl
      have hE : Ext w1 w2 := hG
      have hS := hE.size
      have q9 := tellV hp 0 3 rfl rfl (fun _ => hE)
      have q13 := tellV hp 1 7 rfl rfl (fun _ => hE)
      change OpGoal _ _ _ f w2 Ext _
      refine og_call (P := Try.prog) _ _ _ #[f 3, f 7] Try.func13 (by kernel_rfl) (by kernel_rfl) rfl rfl (by kernel_rfl) ?_
      refine (rmake_zero _ _ (nx * dy) _ (q9.isZ (by rw [LIM_eq]; omega)) (Hz.out ▸ q13.isZ (by rw [LIM_eq]; omega))).mono ?_
      rintro e w' ⟨rfl, h2⟩
      exact ⟨_, rfl, h2, rfl⟩
    case o9 =>
      intro f w2 hG hp hl
      have hE : Ext w1 w2 := hG
      have hS := hE.size
      have q14 : f 8 = .tuple #[.agg #[.bool false, .slice none 0 0, .slice none 0 0], .int .i64 3] := tellV hp 0 8 rfl rfl (fun h => by cases h)
      simp only [OpGoal]
      go_simp
      exact ⟨_, rfl, Ext.refl _, rfl⟩
    case o10 =>
      intro f w2 hG hp hl
      have hE : Ext w1 w2 := hG
      have hS := hE.size
      have q14 : f 8 = .tuple #[.agg #[.bool false, .slice none 0 0, .slice none 0 0], .int .i64 3] := tellV hp 0 8 rfl rfl (fun h => by cases h)
      simp only [OpGoal]
      go_simp
      exact ⟨_, rfl, Ext.refl _, rfl⟩
    case o11 =>
      intro f w2 hG hp hl
      have hE : Ext w1 w2 := hG
      have hS := hE.size
      have q15 : f 9 = .agg #[.bool false, .slice none 0 0, .slice none 0 0] := tellV hp 0 9 rfl rfl (fun h => by cases h)
      intro hg0
      change OpGoal _ _ _ f w2 (Chg _) _
      exact og_store (P := Try.prog) _ _ _ (w.heap.size + 2) _ _ _ (PP.val _ : PP _).p rfl rfl rfl q15 (show Bx 28 w2 _ _ from hg0.trans b3) (by kernel_rfl) rfl (all3 rfl rfl rfl) (fun w' h => rfl)
    case o12 =>
      intro f w2 hG hp hl
      have hS : w1.heap.size ≤ w2.heap.size := hG.2.2.2.1
      have q16 : f 10 = .int .i64 3 := tellV hp 0 10 rfl rfl (fun h => by cases h)
      simp only [OpGoal]
      go_simp
      exact ⟨_, rfl, Ext.refl _, rfl⟩
  · intro f w2 hG hp
    obtain ⟨cs0, hbx0, hz0⟩ : ∃ cs, Bx 28 w2 (w.heap.size + 2) cs ∧ (PP.val (.agg #[.bool false, .slice none 0 0, .slice none 0 0]) : PP w1.heap.size).p (.agg cs) w2 := endS hp 11 (by decide)
    have q5 : f 12 = .int .i64 3 := endV hp 12 (by decide) rfl (fun h => by cases h)
    clear hp
    cases hz0
    go_wp2
    refine ret_box2 4 5 28 (w.heap.size + 2) 28 _ _ _ (by kernel_rfl) rfl q5 hbx0 Try.underlying28 rfl (by kernel_rfl) rfl ?_
    exact ⟨rfl, e1.stepS hG (by simp)⟩

set_option maxRecDepth 100000 in
theorem rofint_calls (v : Value) (z : Int) (w : World) (hv : IsZ w v z) (hsz : szZ z ≤ 17592186044096) :
    Calls Try.prog 15 #[v] w fun e w' => ∃ v', e = .returned v' ∧ FrQ w.heap.size w' v' (z : Rat) ∧ Ext w w' := by
  obtain ⟨b, s, n, rfl, hs, hz⟩ := hv
  have Hz := Lib.hid hz
  go_enter Try.func15, Try.ntmps15
  obtain ⟨w1, hw1, e1, b1, b2, s1⟩ := alloc2 w #[.bool b, s] #[.bool false, .slice none 0 0, .slice none 0 0] 24 28
  have hc0 := b1.cell 0
  have hc1 := b1.cell 1
  rw [hw1] at hc0 hc1
  go_wp2_with fail
  rw [← hw1]
  clear hc0 hc1 hz
  refine (make_calls _ s n _ (hs.ext e1)).mono ?_
  rintro e w2 ⟨vz, rfl, hz, e2⟩
  obtain ⟨s', rfl, hn⟩ := hz
  obtain ⟨ad, cap, rfl⟩ := hn.slice
  have Hn := Lib.hid hn
  clear hn
  go_wp2_with fail
  refine (one_calls _).mono ?_
  rintro e w3 ⟨v1, rfl, h1, e3⟩
  obtain ⟨ad1, cap1, rfl⟩ := h1.slice
  have H1 := Lib.hid h1
  clear h1
  have es2 := e2.size
  have hb := (b2.ext e2).ext e3
  have hc0 := hb.cell 0
  have hc1 := hb.cell 1
  have hc2 := hb.cell 2
  have hf0 := hb.free 0
  have hf1 := hb.free 1
  have hf2 := hb.free 2
  go_wp2
  refine ret_box 2 28 (w.heap.size + 1) 28 _ _ (by kernel_rfl) rfl (((hb.set 0 _).set 1 _).set 2 _) Try.underlying28 rfl (by kernel_rfl) rfl ?_
  rw [Hz.out]
  exact ⟨_, rfl, ⟨_, _, rfl, (((Hn.out.ext e3).chg (Chg.trans (Chg.trans (Chg.setCell _ (w.heap.size + 1) 0 _) (Chg.setCell _ (w.heap.size + 1) 1 _)) (Chg.setCell _ (w.heap.size + 1) 2 _))
 (by omega)).mono (by omega)), ((H1.out.chg (Chg.trans (Chg.trans (Chg.setCell _ (w.heap.size + 1) 0 _) (Chg.setCell _ (w.heap.size + 1) 1 _)) (Chg.setCell _ (w.heap.size + 1) 2 _))
 (by omega)).mono (by omega))⟩, ((e1.trans e2).trans e3).step (Chg.trans (Chg.trans (Chg.setCell _ (w.heap.size + 1) 0 _) (Chg.setCell _ (w.heap.size + 1) 1 _)) (Chg.setCell _ (w.heap.size + 1) 2 _))
 (by omega)⟩

set_option maxRecDepth 100000 in
theorem rof_calls (x y : Int) (w : World) (h0 : -9223372036854775808 ≤ x) (h1 : x ≤ 9223372036854775807) (h2 : -9223372036854775808 ≤ y) (h3 : y ≤ 9223372036854775807) (hy : y ≠ 0) :
    Calls Try.prog 23 #[.int .i64 x, .int .i64 y] w fun e w' => ∃ v', e = .returned (.tuple #[v', .int .i64 0]) ∧ FrQ w.heap.size w' v' (Rat.divInt x y) ∧ Ext w w' := by
  have hx1 : szZ x ≤ 1 := szZ_small (by rw [W_eq]; omega)
  have hy1 : szZ y ≤ 1 := szZ_small (by rw [W_eq]; omega)
  go_enter Try.func23, Try.ntmps23
  go_wp2_with fail
  obtain ⟨w1, hw1, e1, b1, s1⟩ := alloc1 w #[.bool false, .slice none 0 0, .slice none 0 0] 28
  rw [← hw1]
  refine (zof_calls x _ h0 h1).mono ?_
  rintro e w2 ⟨v1, rfl, hv1, e2⟩
  go_wp2_with fail
  refine (zof_calls y _ h2 h3).mono ?_
  rintro e w3 ⟨v2, rfl, hv2, e3⟩
  go_wp2_with fail
  refine (rmake_calls _ _ x y _ ((hv1.isZ (by rw [LIM_eq]; omega)).ext e3) (hv2.isZ (by rw [LIM_eq]; omega)) hy (by omega) (by omega)).mono ?_
  rintro e w4 ⟨v3, rfl, hq, e4⟩
  obtain ⟨s', t', rfl, hn, hm⟩ := hq
  obtain ⟨ad, cap, rfl⟩ := hn.slice
  obtain ⟨ad2, cap2, rfl⟩ := hm.slice
  have Hn := Lib.hid hn
  have Hm := Lib.hid hm
  clear hn hm
  have es2 := e2.size
  have es3 := e3.size
  have hb := ((b1.ext e2).ext e3).ext e4
  have hc0 := hb.cell 0
  have hc1 := hb.cell 1
  have hc2 := hb.cell 2
  have hf0 := hb.free 0
  have hf1 := hb.free 1
  have hf2 := hb.free 2
  go_wp2
  refine ret_box2 4 5 28 w.heap.size 28 _ _ _ (by kernel_rfl) rfl rfl (((hb.set 0 _).set 1 _).set 2 _) Try.underlying28 rfl (by kernel_rfl) rfl ?_
  exact ⟨_, rfl, ⟨_, _, rfl, ((Hn.out.chg (Chg.trans (Chg.trans (Chg.setCell _ w.heap.size 0 _) (Chg.setCell _ w.heap.size 1 _)) (Chg.setCell _ w.heap.size 2 _))
 (by omega)).mono (by omega)), ((Hm.out.chg (Chg.trans (Chg.trans (Chg.setCell _ w.heap.size 0 _) (Chg.setCell _ w.heap.size 1 _)) (Chg.setCell _ w.heap.size 2 _))
 (by omega)).mono (by omega))⟩, (((e1.trans e2).trans e3).trans e4).step (Chg.trans (Chg.trans (Chg.setCell _ w.heap.size 0 _) (Chg.setCell _ w.heap.size 1 _)) (Chg.setCell _ w.heap.size 2 _))
 (by omega)⟩

set_option maxRecDepth 100000 in
theorem rof_zero (x : Int) (w : World) (h0 : -9223372036854775808 ≤ x) (h1 : x ≤ 9223372036854775807) :
    Calls Try.prog 23 #[.int .i64 x, .int .i64 0] w fun e w' => e = .returned (.tuple #[zeroQ, .int .i64 3]) ∧ Ext w w' := by
  have hx1 : szZ x ≤ 1 := szZ_small (by rw [W_eq]; omega)
  go_enter Try.func23, Try.ntmps23
  go_wp2_with fail
  obtain ⟨w1, hw1, e1, b1, s1⟩ := alloc1 w #[.bool false, .slice none 0 0, .slice none 0 0] 28
  rw [← hw1]
  refine (zof_calls x _ h0 h1).mono ?_
  rintro e w2 ⟨v1, rfl, hv1, e2⟩
  go_wp2_with fail
  refine (zof_calls 0 _ (by omega) (by omega)).mono ?_
  rintro e w3 ⟨v2, rfl, hv2, e3⟩
  go_wp2_with fail
  refine (rmake_zero _ _ x _ ((hv1.isZ (by rw [LIM_eq]; omega)).ext e3) (hv2.isZ (by rw [LIM_eq, show szZ 0 = 0 from rfl]; omega))).mono ?_
  rintro e w4 ⟨rfl, e4⟩
  unfold zeroQ
  have hb := ((b1.ext e2).ext e3).ext e4
  have hc0 := hb.cell 0
  have hc1 := hb.cell 1
  have hc2 := hb.cell 2
  have hf0 := hb.free 0
  have hf1 := hb.free 1
  have hf2 := hb.free 2
  go_wp2
  refine ret_box2 4 5 28 w.heap.size 28 _ _ _ (by kernel_rfl) rfl rfl (((hb.set 0 _).set 1 _).set 2 _) Try.underlying28 rfl (by kernel_rfl) rfl ?_
  exact ⟨rfl, (((e1.trans e2).trans e3).trans e4).step (Chg.trans (Chg.trans (Chg.setCell _ w.heap.size 0 _) (Chg.setCell _ w.heap.size 1 _)) (Chg.setCell _ w.heap.size 2 _))
 (by omega)⟩

set_option maxRecDepth 100000 in
theorem rwhole_calls (x : Int) (w : World) (h0 : -9223372036854775808 ≤ x) (h1 : x ≤ 9223372036854775807) :
    Calls Try.prog 24 #[.int .i64 x] w fun e w' => ∃ v', e = .returned v' ∧ FrQ w.heap.size w' v' (x : Rat) ∧ Ext w w' := by
  have hx1 : szZ x ≤ 1 := szZ_small (by rw [W_eq]; omega)
  go_enter Try.func24, Try.ntmps24
  go_wp2_with fail
  obtain ⟨w1, hw1, e1, b1, s1⟩ := alloc1 w #[.bool false, .slice none 0 0, .slice none 0 0] 28
  rw [← hw1]
  refine (zof_calls x _ h0 h1).mono ?_
  rintro e w2 ⟨v1, rfl, hv1, e2⟩
  go_wp2_with fail
  refine (rofint_calls _ x _ (hv1.isZ (by rw [LIM_eq]; omega)) (by omega)).mono ?_
  rintro e w4 ⟨v3, rfl, hq, e4⟩
  obtain ⟨s', t', rfl, hn, hm⟩ := hq
  obtain ⟨ad, cap, rfl⟩ := hn.slice
  obtain ⟨ad2, cap2, rfl⟩ := hm.slice
  have Hn := Lib.hid hn
  have Hm := Lib.hid hm
  clear hn hm
  have es2 := e2.size
  have hb := (b1.ext e2).ext e4
  have hc0 := hb.cell 0
  have hc1 := hb.cell 1
  have hc2 := hb.cell 2
  have hf0 := hb.free 0
  have hf1 := hb.free 1
  have hf2 := hb.free 2
  go_wp2
  refine ret_box 2 28 w.heap.size 28 _ _ (by kernel_rfl) rfl (((hb.set 0 _).set 1 _).set 2 _) Try.underlying28 rfl (by kernel_rfl) rfl ?_
  exact ⟨_, rfl, ⟨_, _, rfl, ((Hn.out.chg (Chg.trans (Chg.trans (Chg.setCell _ w.heap.size 0 _) (Chg.setCell _ w.heap.size 1 _)) (Chg.setCell _ w.heap.size 2 _))
 (by omega)).mono (by omega)), ((Hm.out.chg (Chg.trans (Chg.trans (Chg.setCell _ w.heap.size 0 _) (Chg.setCell _ w.heap.size 1 _)) (Chg.setCell _ w.heap.size 2 _))
 (by omega)).mono (by omega))⟩, ((e1.trans e2).trans e4).step (Chg.trans (Chg.trans (Chg.setCell _ w.heap.size 0 _) (Chg.setCell _ w.heap.size 1 _)) (Chg.setCell _ w.heap.size 2 _))
 (by omega)⟩
end Go.Proofs.Ytnefipinicfegaa
